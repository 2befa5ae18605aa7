/-
  What the statements of chapter 11 ask at fixed seats: the plain part.
-/
import Derived.Test.YtlkpgeopcdhgjaaGrp8
set_option linter.unusedVariables false
namespace Go.Proofs.Ytlkpgeopcdhgjaa
open Go Go.Eng Go.RowKit
abbrev mS : ByteArray := ⟨#[109]⟩
abbrev nS : ByteArray := ⟨#[110]⟩
abbrev oS : ByteArray := ⟨#[111]⟩
abbrev xS : ByteArray := ⟨#[120]⟩
abbrev tS : ByteArray := ⟨#[116]⟩
abbrev sAt (nm : ByteArray) : St := ⟨nm, [tS], 5, 0⟩
abbrev sM3 : St := ⟨mS, [tS], 5, 3⟩
abbrev sE : St := ⟨⟨#[]⟩, [], 0, 0⟩
abbrev tp4 : List Topic := [⟨tS, 4⟩]
abbrev G1 : Gs := ⟨1, true, [sAt mS]⟩
abbrev G2 : Gs := ⟨2, true, [sAt mS, sAt nS]⟩
abbrev G3 : Gs := ⟨2, true, [sM3, sAt nS]⟩
abbrev G4 : Gs := ⟨3, true, [sM3]⟩
abbrev G5 : Gs := ⟨4, true, []⟩
theorem one_name (c : UInt8) (h : okb c = true) : nameB ⟨#[c]⟩ := by
  refine ⟨Nat.le_refl 1, (show 1 ≤ 16 by decide), fun i hi => ?_⟩
  have : i = 0 := by
    have : i < 1 := hi
    omega
  subst this
  exact h
theorem not_name : ¬ nameB ⟨#[]⟩ := fun h => absurd h.1 (by decide)
theorem may_at (c : UInt8) (h : okb c = true) (se : Int) (hs : numB se) : mayS ⟨⟨#[c]⟩, [tS], 5, se⟩ := by
  refine ⟨one_name c h, (show 1 ≤ [tS].length by decide), (show [tS].length ≤ 8 by decide), ?_, (show (1 : Int) ≤ 5 by decide), (show numB 5 by decide), hs⟩
  intro i hi
  have : i = 0 := by simp at hi; omega
  subst this
  exact ⟨one_name 116 (by decide), fun h => absurd h (by decide)⟩
theorem slt_one {a b : UInt8} (h : a < b) : slt ⟨#[a]⟩ ⟨#[b]⟩ := by
  unfold slt
  rw [ByteArray.toList_eq, ByteArray.toList_eq]
  simp [Op.bytesLess, h]
theorem mn : slt mS nS := slt_one (by decide)
theorem eGet_yes {x : St} {S : List St} {k : ByteArray} (h : x.name = k) : eGet (x :: S) k = some x := by
  exact List.find?_cons_of_pos (p := fun x : St => decide (key x = k)) (decide_eq_true (show key x = k from h))
theorem eGet_no {x : St} {S : List St} {k : ByteArray} (h : x.name ≠ k) : eGet (x :: S) k = eGet S k := by
  exact List.find?_cons_of_neg (p := fun x : St => decide (key x = k)) (by rw [decide_eq_true_iff]; exact h)
theorem eGet_nil (k : ByteArray) : eGet ([] : List St) k = none := rfl
theorem mn_ne : mS ≠ nS := by simp
theorem mo_ne : mS ≠ oS := by simp
theorem no_ne : nS ≠ oS := by simp
theorem mx_ne : mS ≠ xS := by simp
theorem nx_ne : nS ≠ xS := by simp
theorem join_ok {G : Gs} {s : St} {rb : Bool} (h1 : mayS s) (h2 : G.S.length = 0 ∨ G.rb = rb) (h3 : G.S.length < 8) (h4 : G.gen < 1099511627776) : joinE G s rb = 0 := by
  unfold joinE
  rw [if_neg (not_not_intro h1), if_neg, if_neg]
  · rintro (⟨h, _⟩ | h) <;> omega
  · rintro ⟨h, h'⟩
    rcases h2 with h2 | h2
    · omega
    · exact h' h2
theorem joinG_ok {G : Gs} {s : St} {rb : Bool} (h : joinE G s rb = 0) : joinG G s rb = ⟨G.gen + 1, rb, ePut G.S s⟩ := by unfold joinG; rw [if_pos h]
theorem joinV_ok {G : Gs} {s : St} {rb : Bool} (h : joinE G s rb = 0) : joinV G s rb = G.gen + 1 := by unfold joinV; rw [if_pos h]
theorem a1 : joinE g0 (sAt mS) true = 0 := join_ok (may_at 109 (by decide) 0 (by decide)) (.inl rfl) (by decide) (by decide)
theorem a2 : joinG g0 (sAt mS) true = G1 := (joinG_ok a1).trans rfl
theorem a3 : joinE G1 (sAt nS) true = 0 := join_ok (may_at 110 (by decide) 0 (by decide)) (.inr rfl) (by decide) (by decide)
theorem put2 : ePut [sAt mS] (sAt nS) = [sAt mS, sAt nS] := by
  unfold ePut
  have h1 : bfr (sAt mS) (sAt nS) := mn
  have h2 : ¬ bfr (sAt nS) (sAt mS) := bfr_asymm h1
  simp [h1, h2]
theorem a4 : joinG G1 (sAt nS) true = G2 := by rw [joinG_ok a3, put2]; rfl
theorem a5 : joinE G2 (sAt oS) false = 112 := by
  unfold joinE
  rw [if_neg (not_not_intro (may_at 111 (by decide) 0 (by decide))), if_pos ⟨by decide, by decide⟩]
theorem not_may : ¬ mayS sE := fun h => not_name h.1
theorem a6 (G : Gs) : joinE G sE true = 1 := joinE_1 not_may
theorem getm2 : eGet G2.S mS = some (sAt mS) := eGet_yes rfl
theorem getx2 : eGet G2.S xS = none := (eGet_no mx_ne).trans ((eGet_no nx_ne).trans (eGet_nil _))
theorem getx3 : eGet G3.S xS = none := (eGet_no mx_ne).trans ((eGet_no nx_ne).trans (eGet_nil _))
theorem getn3 : eGet G3.S nS = some (sAt nS) := (eGet_no mn_ne).trans (eGet_yes rfl)
theorem a7 : beatE G2 mS 1 3 = 111 := by
  unfold beatE fenceE
  rw [if_neg (by decide), if_neg (by rw [getm2]; exact Option.some_ne_none _), if_pos (by decide)]
theorem a8 : beatG G2 mS 1 3 = G2 := by unfold beatG; rw [if_neg (by rw [a7]; decide)]
theorem a9 : beatE G2 mS 2 3 = 0 := by
  unfold beatE fenceE
  rw [if_neg (by decide), if_neg (by rw [getm2]; exact Option.some_ne_none _), if_neg (by decide)]
theorem a10 : beatG G2 mS 2 3 = G3 := by
  unfold beatG
  rw [if_pos a9]
  have h : beatS G2.S mS 3 = G3.S := by
    unfold beatS beat1
    simp [mn_ne.symm]
    decide
  rw [h]
theorem a11 : beatE G3 xS 2 3 = 110 := by
  unfold beatE fenceE
  rw [if_neg (by decide), if_pos getx3]
theorem a12 : beatG G3 xS 2 3 = G3 := by unfold beatG; rw [if_neg (by rw [a11]; decide)]
theorem a13 : fenceE G3 nS 2 = 0 := by
  unfold fenceE
  rw [if_neg (by rw [getn3]; exact Option.some_ne_none _), if_neg (by decide)]
theorem tops4 : topicsE tp4 = 0 := by
  unfold topicsE
  rw [if_neg (by decide), if_pos]
  intro i h
  have : i = 0 := by simp at h; omega
  subst this
  exact ⟨⟨one_name 116 (by decide), (show (1 : Int) ≤ 4 by decide), (show (4 : Int) ≤ 8 by decide)⟩, fun h => absurd h (by decide)⟩
/-- members of a group may be -/
theorem mems_ok {S : List St} (hs : S.Pairwise bfr) : membersOk (mems S) := by
  intro i h
  have h' : i + 1 < S.length := by simpa [mems] using h
  have h1 := List.pairwise_iff_getElem.1 hs i (i + 1) (by omega) h' (by omega)
  simp only [mems, List.getElem_map]
  exact h1
theorem check_tops {S : List St} (hs : S.Pairwise bfr) (hl : S.length ≤ 8) (l : List Topic) : checkE l (mems S) = topicsE l := by
  unfold checkE
  by_cases h : topicsE l ≠ 0
  · rw [if_pos h]
  · rw [if_neg h, if_neg (by simp [mems]; omega), if_pos (mems_ok hs)]
    exact (Classical.not_not.1 h).symm
theorem a14 : gvE G3 nS 2 tp4 = 0 := by
  have hs : G3.S.Pairwise bfr := by
    have : bfr sM3 (sAt nS) := mn
    simp [this]
  unfold gvE
  rw [check_tops hs (by decide), tops4, if_neg (by decide)]
  exact a13
theorem all_want {m : List Mem} {t : ByteArray} (h : ∀ x ∈ m, x.has t) {i : Nat} (hi : i < m.length) : wantsAt m i t := ⟨hi, h _ (List.getElem_mem hi)⟩
theorem nxt_all {m : List Mem} {t : ByteArray} (h : ∀ x ∈ m, x.has t) (h0 : 0 < m.length) (p : Nat) : nxt m t p = some (p % m.length) := by
  unfold nxt
  obtain ⟨n, hn⟩ : ∃ n, m.length = n + 1 := ⟨m.length - 1, by omega⟩
  have hr : List.range m.length = 0 :: (List.range n).map Nat.succ := by rw [hn, List.range_succ_eq_map]
  rw [hr, List.map_cons, List.find?_cons_of_pos]
  · rw [Nat.add_zero]
  · rw [Nat.add_zero]
    exact decide_eq_true (all_want h (Nat.mod_lt _ h0))
theorem a15 : robinG tp4 (mems G3.S) = [[⟨tS, 0⟩, ⟨tS, 2⟩], [⟨tS, 1⟩, ⟨tS, 3⟩]] := by
  have hw : ∀ x ∈ mems G3.S, x.has tS := by
    intro x hx
    simp only [mems, List.map_cons, List.map_nil, List.mem_cons, List.not_mem_nil, or_false] at hx
    rcases hx with rfl | rfl <;> simp [memOf, Mem.has]
  have hst : ∀ (g : List (List Part)) (p k : Nat), stepR (mems G3.S) tS (g, p) k = (g.modify (p % 2) (fun x => x ++ [⟨tS, (k : Int)⟩]), p % 2 + 1) := by
    intro g p k
    unfold stepR
    rw [nxt_all hw (by decide) p]
    rfl
  unfold robinG allR
  simp only [List.foldl_cons, List.foldl_nil]
  unfold topR
  have h4 : List.range (Int.toNat 4) = [0, 1, 2, 3] := by decide
  rw [h4]
  simp only [List.foldl_cons, List.foldl_nil, hst]
  rfl
theorem a16 : gvP G3 nS 2 tp4 = [⟨tS, 1⟩, ⟨tS, 3⟩] := by
  unfold gvP
  rw [if_pos a14]
  have h1 : giveG G3 tp4 = [[⟨tS, 0⟩, ⟨tS, 2⟩], [⟨tS, 1⟩, ⟨tS, 3⟩]] := by
    unfold giveG giveM
    rw [if_pos rfl]
    exact a15
  have h2 : placeN G3.S nS = 1 := by
    unfold placeN
    rw [List.findIdx_cons]
    have : decide (sM3.name = nS) = false := decide_eq_false mn_ne
    rw [this]
    simp [List.findIdx_cons]
  rw [h1, h2]
  rfl
theorem a17 : expL G3 6 = [nS] := by unfold expL late; simp
theorem a18 : expG G3 6 = G4 := by
  unfold expG
  rw [a17]
  have h : expS G3.S 6 = [sM3] := by unfold expS late; simp
  rw [h]
  rfl
theorem a19 {l : List Seat} (h : l.map Seat.st = G4.S) : loadE 3 l = 0 := by
  unfold loadE
  have hl : l.length = 1 := by simpa using congrArg List.length h
  rw [if_neg (by omega), if_neg (by decide), if_pos]
  intro i hi
  have hi0 : i = 0 := by omega
  subst hi0
  have h0 : l[0].st = sM3 := by
    have := congrArg (fun l => l[0]?) h
    simpa [hi] using this
  rw [h0]
  exact ⟨may_at 109 (by decide) 3 (by decide), fun h => absurd h (by decide)⟩
theorem a20 : loadE (-1) ([] : List Seat) = 1 := by
  unfold loadE
  rw [if_neg (by decide), if_pos (by decide)]
theorem a21 : fenceE G4 mS 3 = 0 := by
  unfold fenceE
  rw [if_neg (by rw [show eGet G4.S mS = some sM3 from eGet_yes rfl]; exact Option.some_ne_none _), if_neg (by decide)]
theorem a22 : leaveG G4 mS 3 = G5 := by
  unfold leaveG
  rw [if_pos a21]
  have h : eDel G4.S mS = [] := by
    unfold eDel
    rw [List.filter_eq_nil_iff]
    intro x hx
    obtain rfl := List.mem_singleton.1 hx
    simp only [decide_eq_true_eq]
    exact fun h => h rfl
  rw [h]
  rfl
end Go.Proofs.Ytlkpgeopcdhgjaa
