/-
  Less0: walks and laws, written by gen/gen.py out of gen/thy/Less0.py.
-/
import Derived.Test.YtoebejfffakjpaaFair
set_option linter.unusedVariables false
namespace Go.Proofs.Ytoebejfffakjpaa
open Go Go.Eng Go.RowKit
/-- the places of the others, when member n has left -/
def skip (n j : Nat) : Nat := if j < n then j else j + 1
def skipP (n p : Nat) : Nat := if p ≤ n then p else p + 1
def skipB (n j : Nat) : Nat := if j ≤ n then j else j - 1
theorem skip_ne (n j : Nat) : skip n j ≠ n := by unfold skip; split <;> omega
theorem skip_inj {n i j : Nat} (h : skip n i = skip n j) : i = j := by unfold skip at h; split at h <;> split at h <;> omega
theorem skip_back {n j : Nat} (h : j ≠ n) : skip n (skipB n j) = j := by unfold skip skipB; split <;> split <;> omega
theorem scan_skip : ∀ len, len < 9 → ∀ n, n < len → ∀ p, p < len → ((List.range (len - 1)).map fun k => skip n ((p + k) % (len - 1))) = ((List.range len).map fun k => (skipP n p + k) % len).filter fun i => decide (i ≠ n) := by decide +kernel
def lessM (M : List Mem) (n : Nat) : List Mem := M.take n ++ M.drop (n + 1)
def noneM (x : Mem) : Mem := ⟨x.name, none, 0, []⟩
def idleM (M : List Mem) (n : Nat) (hn : n < M.length) : List Mem := M.set n (noneM M[n])
theorem ahead_step (m : List Mem) (t : ByteArray) {k : Nat} (hk : k < m.length) : ahead m (k + 1) t = ahead m k t + if wantsAt m k t then 1 else 0 := by
  by_cases h : wantsAt m k t
  · rw [ahead_yes hk h.2, if_pos h]
  · rw [ahead_no hk (fun h' => h ⟨hk, h'⟩), if_neg h]; rfl
theorem members_rise {m : List Mem} (h : membersOk m) : ∀ (j i : Nat) (hj : j < m.length) (hi : i < j), slt m[i].name m[j].name := by
  intro j
  induction j with
  | zero => intro i hj hi; omega
  | succ j ih =>
    intro i hj hi
    have h1 := h j hj
    rcases Nat.lt_or_ge i j with h2 | h2
    · exact slt_trans (ih i (by omega) h2) h1
    · have : i = j := by omega
      subst this
      exact h1
section
variable {M : List Mem} {n : Nat} (hn : n < M.length)
include hn
theorem less_len : (lessM M n).length = M.length - 1 := by
  simp only [lessM, List.length_append, List.length_take, List.length_drop]
  omega
theorem idle_len : (idleM M n hn).length = M.length := by simp [idleM]
theorem less_get {j : Nat} (hj : j < (lessM M n).length) : (lessM M n)[j] = M[skip n j]'(by rw [less_len hn] at hj; unfold skip; split <;> omega) := by
  have h1 := less_len hn
  simp only [lessM] at hj h1 ⊢
  rw [List.getElem_append]
  split
  · rename_i h2
    rw [List.length_take] at h2
    simp only [List.getElem_take]
    congr 1
    unfold skip; rw [if_pos (by omega)]
  · rename_i h2
    rw [List.length_take] at h2
    simp only [List.getElem_drop, List.length_take]
    congr 1
    unfold skip; rw [if_neg (by omega)]
    omega
theorem idle_get {j : Nat} (hj : j < M.length) (hne : j ≠ n) : (idleM M n hn)[j]'(by rw [idle_len]; exact hj) = M[j] := by
  simp only [idleM]
  rw [List.getElem_set_ne (by omega)]
theorem idle_no (t : ByteArray) : ¬ wantsAt (idleM M n hn) n t := by
  rintro ⟨h1, h2⟩
  simp only [idleM, List.getElem_set_self] at h2
  cases h2
theorem wants_skip (t : ByteArray) (j : Nat) : wantsAt (idleM M n hn) (skip n j) t ↔ wantsAt (lessM M n) j t := by
  have h0 := less_len hn
  constructor
  · rintro ⟨h1, h2⟩
    rw [idle_len] at h1
    have hj : j < (lessM M n).length := by rw [h0]; unfold skip at h1; split at h1 <;> omega
    rw [idle_get hn h1 (skip_ne n j)] at h2
    exact ⟨hj, by rw [less_get hn hj]; exact h2⟩
  · rintro ⟨h1, h2⟩
    rw [less_get hn h1] at h2
    have hk : skip n j < M.length := by rw [h0] at h1; unfold skip; split <;> omega
    exact ⟨by rw [idle_len]; exact hk, by rw [idle_get hn hk (skip_ne n j)]; exact h2⟩
theorem ahead_low (t : ByteArray) : ∀ j, j ≤ n → ahead (lessM M n) j t = ahead (idleM M n hn) j t
  | 0, _ => by rw [ahead_zero, ahead_zero]
  | j + 1, hj => by
    have h1 := wants_skip hn t j
    rw [show skip n j = j by unfold skip; rw [if_pos (by omega)]] at h1
    rw [ahead_step _ _ (by rw [less_len hn]; omega), ahead_step _ _ (by rw [idle_len]; omega), ahead_low t j (by omega)]
    congr 1
    by_cases h : wantsAt (lessM M n) j t
    · rw [if_pos h, if_pos (h1.2 h)]
    · rw [if_neg h, if_neg (fun h' => h (h1.1 h'))]
theorem ahead_high (t : ByteArray) : ∀ d, n + d ≤ M.length - 1 → ahead (lessM M n) (n + d) t = ahead (idleM M n hn) (n + d + 1) t
  | 0, _ => by
    rw [Nat.add_zero, ahead_step _ _ (by rw [idle_len]; omega), if_neg (idle_no hn t), ahead_low hn t n (Nat.le_refl _)]
    rfl
  | d + 1, hd => by
    have h1 := wants_skip hn t (n + d)
    rw [show skip n (n + d) = n + d + 1 by unfold skip; rw [if_neg (by omega)]] at h1
    rw [show n + (d + 1) = n + d + 1 by omega, ahead_step _ _ (by rw [less_len hn]; omega), ahead_step (idleM M n hn) _ (by rw [idle_len]; omega), ahead_high t d (by omega)]
    congr 1
    by_cases h : wantsAt (lessM M n) (n + d) t
    · rw [if_pos h, if_pos (h1.2 h)]
    · rw [if_neg h, if_neg (fun h' => h (h1.1 h'))]
theorem ahead_skip (t : ByteArray) {j : Nat} (hj : j < M.length - 1) : ahead (lessM M n) j t = ahead (idleM M n hn) (skip n j) t := by
  unfold skip
  split
  · exact ahead_low hn t j (by omega)
  · have := ahead_high hn t (j - n) (by omega)
    rw [show n + (j - n) = j by omega] at this
    exact this
theorem ahead_tot (t : ByteArray) : ahead (lessM M n) (lessM M n).length t = ahead (idleM M n hn) (idleM M n hn).length t := by
  rw [less_len hn, idle_len]
  have := ahead_high hn t (M.length - 1 - n) (by omega)
  rw [show n + (M.length - 1 - n) = M.length - 1 by omega, show M.length - 1 + 1 = M.length by omega] at this
  exact this
theorem part1_skip (t : Topic) {j : Nat} (hj : j < M.length - 1) : part1 (lessM M n) j t = part1 (idleM M n hn) (skip n j) t := by
  have hs : ahead (lessM M n) (j + 1) t.name = ahead (lessM M n) j t.name + if wantsAt (lessM M n) j t.name then 1 else 0 := ahead_step _ _ (by rw [less_len hn]; exact hj)
  by_cases h : wantsAt (lessM M n) j t.name
  · rw [part1_yes h, part1_yes ((wants_skip hn _ _).2 h), ahead_skip hn _ hj, ahead_tot hn]
  · rw [part1_no h, part1_no (fun h' => h ((wants_skip hn _ _).1 h'))]
theorem range_skip (l : List Topic) {j : Nat} (hj : j < M.length - 1) : rangeRow (lessM M n) l j = rangeRow (idleM M n hn) l (skip n j) := by
  unfold rangeRow
  congr 1
  funext t
  exact part1_skip hn t hj
theorem range_idle (l : List Topic) : rangeRow (idleM M n hn) l n = [] := by
  unfold rangeRow
  rw [List.flatMap_eq_nil_iff]
  intro t _
  exact part1_no (idle_no hn _)
theorem nxt_skip (h8 : M.length ≤ 8) (t : ByteArray) {p : Nat} (hp : p < M.length) : nxt (idleM M n hn) t (skipP n p) = (nxt (lessM M n) t p).map (skip n) := by
  unfold nxt
  rw [idle_len, less_len hn]
  have h1 := scan_skip M.length (by omega) n hn p hp
  have h2 : (((List.range M.length).map fun k => (skipP n p + k) % M.length).find? fun i => decide (wantsAt (idleM M n hn) i t)) = ((((List.range M.length).map fun k => (skipP n p + k) % M.length).filter fun i => decide (i ≠ n)).find? fun i => decide (wantsAt (idleM M n hn) i t)) := by
    rw [List.find?_filter]
    congr 1
    funext i
    by_cases hi : i = n
    · subst hi; simp [idle_no hn t]
    · simp [hi]
  have h3 : ((List.range (M.length - 1)).map fun k => skip n ((p + k) % (M.length - 1))) = ((List.range (M.length - 1)).map fun k => (p + k) % (M.length - 1)).map (skip n) := by rw [List.map_map]; rfl
  rw [h2, ← h1, h3, List.find?_map]
  congr 2
  funext i
  simp only [Function.comp]
  exact decide_eq_decide.2 (wants_skip hn t i)
/-- two states of which one has an idle member more -/
structure RelS (M : List Mem) (n : Nat) (s s' : List (List Part) × Nat) : Prop where
  l1 : s.1.length = M.length - 1
  l2 : s'.1.length = M.length
  p1 : s.2 < M.length
  p2 : s'.2 = skipP n s.2
  g : ∀ (j : Nat) (h1 : j < s.1.length) (h2 : skip n j < s'.1.length), s.1[j] = s'.1[skip n j]
  z : ∀ (h : n < s'.1.length), s'.1[n] = []
theorem RelS.step (h8 : M.length ≤ 8) (t : ByteArray) (k : Nat) {s s' : List (List Part) × Nat} (h : RelS M n s s') : RelS M n (stepR (lessM M n) t s k) (stepR (idleM M n hn) t s' k) := by
  have h1 := nxt_skip hn h8 t h.p1
  rw [← h.p2] at h1
  cases hx : nxt (lessM M n) t s.2 with
  | none =>
    rw [hx] at h1
    rw [stepR_none k hx, stepR_none k h1]
    exact h
  | some i =>
    rw [hx] at h1
    have hi := (nxt_wants hx).1
    rw [less_len hn] at hi
    rw [stepR_some k hx, stepR_some k (i := skip n i) h1]
    refine ⟨by simpa using h.l1, by simpa using h.l2, by show i + 1 < M.length; omega, ?_, fun j h2 h3 => ?_, fun h2 => ?_⟩
    · show skip n i + 1 = skipP n (i + 1)
      unfold skip skipP
      split <;> split <;> omega
    · simp only [List.length_modify] at h2 h3
      simp only [List.getElem_modify]
      rw [h.g j h2 h3]
      by_cases e : i = j
      · rw [if_pos e, if_pos (by rw [e])]
      · rw [if_neg e, if_neg (fun e' => e (skip_inj e'))]
    · simp only [List.length_modify] at h2
      simp only [List.getElem_modify]
      rw [if_neg (skip_ne n i)]
      exact h.z h2
theorem RelS.top (h8 : M.length ≤ 8) (t : Topic) {s s' : List (List Part) × Nat} (h : RelS M n s s') : ∀ k, RelS M n (topR (lessM M n) s t k) (topR (idleM M n hn) s' t k)
  | 0 => h
  | k + 1 => by rw [topR_succ, topR_succ]; exact (RelS.top h8 t h k).step hn h8 t.name k
theorem robin_skip (h8 : M.length ≤ 8) (l : List Topic) : RelS M n (allR (lessM M n) l) (allR (idleM M n hn) l) := by
  have key : ∀ j, j ≤ l.length → RelS M n (allR (lessM M n) (l.take j)) (allR (idleM M n hn) (l.take j)) := by
    intro j
    induction j with
    | zero =>
      intro _
      refine ⟨by simp [allR, less_len hn], by simp [allR, idle_len], by simp [allR]; omega, by simp [allR, skipP], fun j h1 h2 => ?_, fun h => ?_⟩
      · simp [allR]
      · simp [allR]
    | succ j ih =>
      intro hj
      rw [allR_snoc _ _ _ (by omega), allR_snoc _ _ _ (by omega)]
      exact (ih (by omega)).top hn h8 _ _
  have := key l.length (Nat.le_refl _)
  rwa [List.take_length] at this
theorem less_check {l : List Topic} (h : checkE l M = 0) : checkE l (lessM M n) = 0 := by
  obtain ⟨hl8, hlok, hm8, hmok⟩ := check_ok h
  have h0 : topicsE l = 0 := by unfold topicsE; rw [if_neg (by omega), if_pos hlok]
  unfold checkE
  rw [if_neg (by simp [h0]), if_neg (by rw [less_len hn]; omega), if_pos]
  intro i hi
  rw [less_get hn (by omega), less_get hn hi]
  rw [less_len hn] at hi
  exact members_rise hmok _ _ (by unfold skip; split <;> omega) (by unfold skip; split <;> split <;> omega)
theorem idle_check {l : List Topic} (h : checkE l M = 0) : checkE l (idleM M n hn) = 0 := by
  obtain ⟨hl8, hlok, hm8, hmok⟩ := check_ok h
  have h0 : topicsE l = 0 := by unfold topicsE; rw [if_neg (by omega), if_pos hlok]
  have hname : ∀ (k : Nat) (hk : k < M.length), ((idleM M n hn)[k]'(by rw [idle_len]; exact hk)).name = M[k].name := by
    intro k hk
    simp only [idleM]
    rw [List.getElem_set]
    split
    · rename_i e; subst e; rfl
    · rfl
  unfold checkE
  rw [if_neg (by simp [h0]), if_neg (by rw [idle_len]; omega), if_pos]
  intro i hi
  rw [idle_len] at hi
  rw [hname i (by omega), hname (i + 1) hi]
  exact hmok i hi
end
end Go.Proofs.Ytoebejfffakjpaa
