/-
  Two2: walks and laws, written by gen/gen.py out of gen/thy/Two2.py.
-/
import Derived.Test.YtoebejfffakjpaaCut
set_option linter.unusedVariables false
namespace Go.Proofs.Ytoebejfffakjpaa
open Go Go.Eng Go.RowKit
abbrev l1 : List Topic := [⟨tS, 3⟩]
abbrev m1 (p q : Option Addr) : List Mem := [⟨mS, p, 1, [tS]⟩, ⟨nS, q, 1, [tS]⟩]
abbrev x0 : Part := ⟨tS, 0⟩
abbrev x1 : Part := ⟨tS, 1⟩
abbrev x2 : Part := ⟨tS, 2⟩
theorem tS_name : nameB tS := ⟨by decide, by decide, by decide⟩
theorem l1_ok (n : Int) (hn : 1 ≤ n ∧ n ≤ 8) : topicsOk [⟨tS, n⟩] := by
  intro i h
  have : i = 0 := by simp at h; omega
  subst this
  exact ⟨⟨tS_name, hn⟩, fun hk => by omega⟩
theorem slt_mn : slt mS nS := by
  unfold slt
  rw [ByteArray.toList_eq, ByteArray.toList_eq]
  decide
theorem slt_nm : ¬ slt nS mS := by
  unfold slt
  rw [ByteArray.toList_eq, ByteArray.toList_eq]
  decide
variable (p q : Option Addr)
theorem two_check : checkE l1 (m1 p q) = 0 := by
  have h1 : topicsE l1 = 0 := by unfold topicsE; rw [if_neg (by decide), if_pos (l1_ok 3 (by decide))]
  unfold checkE
  rw [if_neg (by simp [h1]), if_neg (by simp), if_pos]
  intro i h
  have : i = 0 := by simp at h; omega
  subst this
  exact slt_mn
theorem two_swap : checkE l1 [⟨nS, q, 1, [tS]⟩, ⟨mS, p, 1, [tS]⟩] = 100 := by
  have h1 : topicsE l1 = 0 := by unfold topicsE; rw [if_neg (by decide), if_pos (l1_ok 3 (by decide))]
  unfold checkE
  rw [if_neg (by simp [h1]), if_neg (by simp), if_neg]
  intro h
  exact slt_nm (h 0 (show 0 + 1 < 2 by decide))
theorem two_zero (m : List Mem) : checkE [⟨tS, 0⟩] m = 1 := by
  have h1 : topicsE [⟨tS, 0⟩] = 1 := by
    unfold topicsE
    rw [if_neg (by decide), if_neg]
    intro h
    have := (h 0 (by decide)).1.2.1
    exact absurd this (by decide)
  unfold checkE
  rw [if_pos (by rw [h1]; decide), h1]
theorem two_nine (x : Mem) : checkE l1 (List.replicate 9 x) = 2 := by
  have h1 : topicsE l1 = 0 := by unfold topicsE; rw [if_neg (by decide), if_pos (l1_ok 3 (by decide))]
  unfold checkE
  rw [if_neg (by simp [h1]), if_pos (by rw [List.length_replicate]; decide)]
theorem two_wants (i : Nat) (h : i < 2) : wantsAt (m1 p q) i tS := by
  refine ⟨h, ?_⟩
  have : i = 0 ∨ i = 1 := by omega
  rcases this with rfl | rfl
  · show tS ∈ [tS]; simp
  · show tS ∈ [tS]; simp
theorem two_ahead1 : ahead (m1 p q) 1 tS = 1 := by
  rw [ahead_yes (show 0 < 2 by decide) (two_wants p q 0 (by decide)).2, ahead_zero]
theorem two_ahead2 : ahead (m1 p q) 2 tS = 2 := by
  rw [ahead_yes (show 1 < 2 by decide) (two_wants p q 1 (by decide)).2, two_ahead1]
theorem two_range : rangeG l1 (m1 p q) = [[x0, x1], [x2]] := by
  have h0 : rangeRow (m1 p q) l1 0 = [x0, x1] := by
    show part1 (m1 p q) 0 ⟨tS, 3⟩ ++ [] = _
    rw [List.append_nil]
    unfold part1
    rw [if_pos (two_wants p q 0 (by decide)), ahead_zero]
    show strip tS (fromK 0 3 (ahead (m1 p q) 2 tS)) (fromK 1 3 (ahead (m1 p q) 2 tS) - fromK 0 3 (ahead (m1 p q) 2 tS)) = _
    rw [two_ahead2]
    rfl
  have h1 : rangeRow (m1 p q) l1 1 = [x2] := by
    show part1 (m1 p q) 1 ⟨tS, 3⟩ ++ [] = _
    rw [List.append_nil]
    unfold part1
    rw [if_pos (two_wants p q 1 (by decide)), two_ahead1]
    show strip tS (fromK 1 3 (ahead (m1 p q) 2 tS)) (fromK 2 3 (ahead (m1 p q) 2 tS) - fromK 1 3 (ahead (m1 p q) 2 tS)) = _
    rw [two_ahead2]
    rfl
  show [rangeRow (m1 p q) l1 0, rangeRow (m1 p q) l1 1] = _
  rw [h0, h1]
theorem two_nxt (p0 : Nat) : nxt (m1 p q) tS p0 = some (p0 % 2) := nxt_some (k := 0) (show 0 < 2 by decide) (fun n hn => by omega) (two_wants p q _ (Nat.mod_lt _ (show 0 < 2 by decide)))
theorem two_robin : robinG l1 (m1 p q) = [[x0, x2], [x1]] := by
  show (topR (m1 p q) ([[], []], 0) ⟨tS, 3⟩ 3).1 = _
  have h1 : topR (m1 p q) ([[], []], 0) ⟨tS, 3⟩ 1 = ([[x0], []], 1) := by
    rw [topR_succ, topR_zero, stepR_some _ (two_nxt p q 0)]; rfl
  have h2 : topR (m1 p q) ([[], []], 0) ⟨tS, 3⟩ 2 = ([[x0], [x1]], 2) := by
    rw [topR_succ, h1, stepR_some _ (two_nxt p q 1)]; rfl
  rw [topR_succ, h2, stepR_some _ (two_nxt p q 2)]; rfl
theorem two_whose1 : whose [[x0, x2], [x1]] x1 = 1 := whose_at (j := 1) (by decide) (by show x1 ∈ [x1]; simp) (fun i hi => by
  have : i = 0 := by omega
  subst this
  show ¬ x1 ∈ [x0, x2]
  simp [x0, x1, x2])
theorem two_whoseu : whose [[x0, x2], [x1]] ⟨uS, 0⟩ = -1 := whose_no (fun i hi => by
  have : i = 0 ∨ i = 1 := by simp at hi; omega
  have hne : uS ≠ tS := by decide
  rcases this with rfl | rfl
  · show ¬ (⟨uS, 0⟩ : Part) ∈ [x0, x2]; simp [x0, x2, hne]
  · show ¬ (⟨uS, 0⟩ : Part) ∈ [x1]; simp [x1])
end Go.Proofs.Ytoebejfffakjpaa
