/-
  Plan: walks and laws, written by gen/gen.py out of gen/thy/Plan.py.
-/
import Derived.Test.YtlkpgeopcdhgjaaReads
import Derived.Test.YtlkpgeopcdhgjaaGrid
set_option linter.unusedVariables false
namespace Go.Proofs.Ytlkpgeopcdhgjaa
open Go Go.Eng Go.RowKit
def strip (t : ByteArray) (a n : Nat) : List Part := (List.range' a n).map fun (x : Nat) => (⟨t, (x : Int)⟩ : Part)
theorem strip_zero (t : ByteArray) (a : Nat) : strip t a 0 = [] := rfl
theorem strip_succ (t : ByteArray) (a n : Nat) : strip t a (n + 1) = strip t a n ++ [⟨t, ((a + n : Nat) : Int)⟩] := by
  simp [strip, List.range'_1_concat]
theorem strip_length (t : ByteArray) (a n : Nat) : (strip t a n).length = n := by simp [strip]
/-- l, and behind it the first n of a stretch -/
def catS (l : List Part) (t : ByteArray) (a : Nat) : Nat → List Part
  | 0 => l
  | n + 1 => l ++ strip t a (n + 1)
theorem catS_eq (l : List Part) (t : ByteArray) (a n : Nat) : catS l t a n = l ++ strip t a n := by cases n <;> simp [catS, strip_zero]
theorem catS_succ (l : List Part) (t : ByteArray) (a n : Nat) : catS l t a (n + 1) = catS l t a n ++ [⟨t, ((a + n : Nat) : Int)⟩] := by rw [catS_eq, catS_eq, strip_succ, List.append_assoc]
def addS (a : Int) : Nat → Int
  | 0 => a
  | n + 1 => a + ((n + 1 : Nat) : Int)
theorem addS_eq (a : Int) (n : Nat) : addS a n = a + (n : Int) := by cases n <;> simp [addS]
def fromK (a n K : Nat) : Nat := a * (n / K) + min a (n % K)
theorem fromK_succ (a n K : Nat) : fromK (a + 1) n K = fromK a n K + (n / K + if a < n % K then 1 else 0) := by
  unfold fromK
  rw [Nat.succ_mul]
  generalize n / K = q
  generalize n % K = r
  split <;> omega
theorem fromK_zero (n K : Nat) : fromK 0 n K = 0 := by simp [fromK]
theorem fromK_all (n K : Nat) (hK : 0 < K) : fromK K n K = n := by
  unfold fromK
  have := Nat.mod_lt n hK
  rw [Nat.min_eq_right (by omega)]
  exact Nat.div_add_mod n K
theorem fromK_mono (n K : Nat) : ∀ (a b : Nat), a ≤ b → fromK a n K ≤ fromK b n K
  | a, 0, h => by obtain rfl : a = 0 := by omega
                  exact Nat.le_refl _
  | a, b + 1, h => by
    rcases Nat.lt_or_ge a (b + 1) with h1 | h1
    · have := fromK_mono n K a b (by omega)
      rw [fromK_succ]; exact Nat.le_trans this (Nat.le_add_right _ _)
    · obtain rfl : a = b + 1 := by omega
      exact Nat.le_refl _
theorem fromK_int (a K : Nat) (n : Int) (hn : 0 ≤ n) : (a : Int) * (n / (K : Int)) + min (a : Int) (n % (K : Int)) = ((fromK a n.toNat K : Nat) : Int) := by
  obtain ⟨k, rfl⟩ := Int.eq_ofNat_of_zero_le hn
  simp only [fromK, Int.toNat_natCast, Int.natCast_add, Int.natCast_mul, Int.natCast_ediv]
  congr 1
  omega
theorem fromK_int1 (a K : Nat) (n : Int) (hn : 0 ≤ n) : ((a : Int) + 1) * (n / (K : Int)) + min ((a : Int) + 1) (n % (K : Int)) = ((fromK (a + 1) n.toNat K : Nat) : Int) := by
  have := fromK_int (a + 1) K n hn
  simpa using this
def wantsAt (m : List Mem) (i : Nat) (t : ByteArray) : Prop := ∃ h : i < m.length, m[i].has t
noncomputable instance (m : List Mem) (i : Nat) (t : ByteArray) : Decidable (wantsAt m i t) := Classical.propDecidable _
theorem wantsAt_iff {m : List Mem} {i : Nat} {t : ByteArray} (h : i < m.length) : wantsAt m i t ↔ m[i].has t := ⟨fun ⟨_, h⟩ => h, fun h' => ⟨h, h'⟩⟩
noncomputable def part1 (m : List Mem) (i : Nat) (t : Topic) : List Part :=
  if wantsAt m i t.name then strip t.name (fromK (ahead m i t.name) t.n.toNat (ahead m m.length t.name)) (fromK (ahead m i t.name + 1) t.n.toNat (ahead m m.length t.name) - fromK (ahead m i t.name) t.n.toNat (ahead m m.length t.name)) else []
noncomputable def rangeRow (m : List Mem) (l : List Topic) (i : Nat) : List Part := l.flatMap (part1 m i)
noncomputable def rangeG (l : List Topic) (m : List Mem) : List (List Part) := (List.range m.length).map (rangeRow m l)
theorem check_ok {l : List Topic} {m : List Mem} (h : checkE l m = 0) : l.length ≤ 8 ∧ topicsOk l ∧ m.length ≤ 8 ∧ membersOk m := by
  unfold checkE at h
  split at h
  · rename_i h1; exact absurd h h1
  · rename_i h1
    have h1 := Classical.not_not.1 h1
    split at h
    · omega
    · split at h
      · rename_i h2 h3
        unfold topicsE at h1
        split at h1
        · omega
        · split at h1
          · rename_i h4 h5; exact ⟨by omega, h5, by omega, h3⟩
          · omega
      · omega
theorem ahead_mono (m : List Mem) (t : ByteArray) : ∀ (a b : Nat), a ≤ b → b ≤ m.length → ahead m a t ≤ ahead m b t
  | a, 0, h, _ => by obtain rfl : a = 0 := by omega
                     exact Nat.le_refl _
  | a, b + 1, h, hb => by
    rcases Nat.lt_or_ge a (b + 1) with h1 | h1
    · have := ahead_mono m t a b (by omega) (by omega)
      by_cases hw : m[b].has t
      · rw [ahead_yes (by omega) hw]; omega
      · rw [ahead_no (by omega) hw]; exact this
    · obtain rfl : a = b + 1 := by omega
      exact Nat.le_refl _
theorem ahead_lt {m : List Mem} {i : Nat} {t : ByteArray} (hi : i < m.length) (h : m[i].has t) : ahead m i t < ahead m m.length t := by
  have := ahead_mono m t (i + 1) m.length (by omega) (Nat.le_refl _)
  rw [ahead_yes hi h] at this
  omega
theorem flatMap_snoc {α β : Type} (f : α → List β) (l : List α) (j : Nat) (hj : j < l.length) : (l.take (j + 1)).flatMap f = (l.take j).flatMap f ++ f l[j] := by
  rw [List.take_succ_eq_append_getElem hj, List.flatMap_append]; simp
theorem range_snoc {β : Type} (f : Nat → β) (j : Nat) : (List.range (j + 1)).map f = (List.range j).map f ++ [f j] := by
  rw [List.range_succ, List.map_append]; rfl
theorem part1_yes {m : List Mem} {i : Nat} {t : Topic} (h : wantsAt m i t.name) : part1 m i t = strip t.name (fromK (ahead m i t.name) t.n.toNat (ahead m m.length t.name)) (fromK (ahead m i t.name + 1) t.n.toNat (ahead m m.length t.name) - fromK (ahead m i t.name) t.n.toNat (ahead m m.length t.name)) := if_pos h
theorem part1_no {m : List Mem} {i : Nat} {t : Topic} (h : ¬ wantsAt m i t.name) : part1 m i t = [] := if_neg h
/-- the bounds of a stretch's arithmetic -/
theorem stretch_bounds {a K : Nat} {n : Int} (ha : a ≤ 8) (hK : 0 < K) (hn : 0 ≤ n) (hn8 : n ≤ 8) : 0 ≤ n / (K : Int) ∧ n / (K : Int) ≤ 8 ∧ 0 ≤ n % (K : Int) ∧ n % (K : Int) ≤ 8 ∧ 0 ≤ (a : Int) * (n / (K : Int)) ∧ (a : Int) * (n / (K : Int)) ≤ 64 ∧ 0 ≤ ((a : Int) + 1) * (n / (K : Int)) ∧ ((a : Int) + 1) * (n / (K : Int)) ≤ 72 := by
  have h1 : 0 ≤ n / (K : Int) := Int.ediv_nonneg hn (by omega)
  have h2 : n / (K : Int) ≤ 8 := Int.le_trans (Int.ediv_le_self _ hn) hn8
  have h3 : 0 ≤ n % (K : Int) := Int.emod_nonneg _ (by omega)
  have h4 : n % (K : Int) ≤ 8 := by
    have h5 := Int.emod_add_mul_ediv n (K : Int)
    have h6 : 0 ≤ (K : Int) * (n / (K : Int)) := Int.mul_nonneg (by omega) h1
    omega
  have h7 : (a : Int) * (n / (K : Int)) ≤ 8 * 8 := Int.mul_le_mul (by omega) h2 h1 (by omega)
  have h8 : ((a : Int) + 1) * (n / (K : Int)) ≤ 9 * 8 := Int.mul_le_mul (by omega) h2 h1 (by omega)
  exact ⟨h1, h2, h3, h4, Int.mul_nonneg (by omega) h1, by omega, Int.mul_nonneg (by omega) h1, by omega⟩
theorem flat_len {α β : Type} (f : α → List β) (b : Nat) : ∀ (l : List α), (∀ x ∈ l, (f x).length ≤ b) → (l.flatMap f).length ≤ l.length * b
  | [], _ => by simp
  | x :: l, h => by
    have h1 := h x (by simp)
    have h2 := flat_len f b l (fun y hy => h y (by simp [hy]))
    rw [List.flatMap_cons, List.length_append, List.length_cons, Nat.succ_mul]
    omega
theorem fromK_top {m : List Mem} {i : Nat} {t : ByteArray} (h : wantsAt m i t) (n : Nat) : fromK (ahead m i t + 1) n (ahead m m.length t) ≤ n := by
  obtain ⟨hi, hw⟩ := h
  have h1 := ahead_lt hi hw
  have h2 := fromK_mono n (ahead m m.length t) (ahead m i t + 1) (ahead m m.length t) h1
  rw [fromK_all n _ (by omega)] at h2
  exact h2
theorem part1_len (m : List Mem) (i : Nat) (t : Topic) (ht : t.n ≤ 8) : (part1 m i t).length ≤ 8 := by
  by_cases h : wantsAt m i t.name
  · rw [part1_yes h, strip_length]
    have := fromK_top h t.n.toNat
    omega
  · rw [part1_no h]; simp
theorem row_len {l : List Topic} (m : List Mem) (i : Nat) (hl8 : l.length ≤ 8) (hlok : topicsOk l) (j : Nat) : ((l.take j).flatMap (part1 m i)).length ≤ 64 := by
  have h1 := flat_len (part1 m i) 8 (l.take j) (fun x hx => part1_len m i x (by
    obtain ⟨k, hk, rfl⟩ := List.getElem_of_mem (List.mem_of_mem_take hx)
    exact (hlok k hk).1.2.2))
  rw [List.length_take] at h1
  omega
end Go.Proofs.Ytlkpgeopcdhgjaa
