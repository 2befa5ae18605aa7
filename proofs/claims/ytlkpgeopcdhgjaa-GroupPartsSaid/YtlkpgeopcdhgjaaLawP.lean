/-
  Plans are whole: the plain part of chapter 10, for a seat that has the order of texts already.
-/
import Derived.Test.YtlkpgeopcdhgjaaGrp6
set_option linter.unusedVariables false
namespace Go.Proofs.Ytlkpgeopcdhgjaa
open Go Go.Eng Go.RowKit
theorem topics_rise {l : List Topic} (h : topicsOk l) : ∀ (j i : Nat) (hj : j < l.length) (hi : i < j), slt l[i].name l[j].name := by
  intro j
  induction j with
  | zero => intro i hj hi; omega
  | succ j ih =>
    intro i hj hi
    have h1 := (h (j + 1) hj).2 (by omega)
    simp only [Nat.add_sub_cancel] at h1
    rcases Nat.lt_or_ge i j with h2 | h2
    · exact slt_trans (ih i (by omega) h2) h1
    · have : i = j := by omega
      subst this
      exact h1
theorem topics_apart {l : List Topic} (h : topicsOk l) : l.Pairwise fun s t => s.name ≠ t.name := by
  rw [List.pairwise_iff_getElem]
  intro i j hi hj hij e
  have := topics_rise h j i hj hij
  rw [e] at this
  exact slt_irrefl _ this

/-! ### the whole of a plan, in some order -/
noncomputable def want1 (m : List Mem) (t : Topic) : List Part := if ahead m m.length t.name = 0 then [] else strip t.name 0 t.n.toNat
noncomputable def expect (l : List Topic) (m : List Mem) : List Part := l.flatMap (want1 m)
structure PlanOk (l : List Topic) (m : List Mem) (G : List (List Part)) : Prop where
  len : G.length = m.length
  wants : ∀ (i : Nat) (h : i < G.length) (x : Part), x ∈ G[i] → wantsAt m i x.topic
  perm : G.flatten.Perm (expect l m)
theorem mem_strip {t : ByteArray} {a n : Nat} {x : Part} : x ∈ strip t a n ↔ x.topic = t ∧ (a : Int) ≤ x.n ∧ x.n < ((a + n : Nat) : Int) := by
  unfold strip
  rw [List.mem_map]
  constructor
  · rintro ⟨k, hk, rfl⟩
    rw [List.mem_range'_1] at hk
    exact ⟨rfl, by show (a : Int) ≤ (k : Int); omega, by show (k : Int) < _; omega⟩
  · rintro ⟨h1, h2, h3⟩
    refine ⟨x.n.toNat, by rw [List.mem_range'_1]; omega, ?_⟩
    obtain ⟨xt, xn⟩ := x
    simp only at h1 h2 h3 ⊢
    subst h1
    congr 1
    omega
theorem strip_nodup (t : ByteArray) (a n : Nat) : (strip t a n).Nodup := by
  unfold strip List.Nodup
  rw [List.pairwise_map]
  refine List.Pairwise.imp ?_ (List.nodup_range' (s := a) (n := n))
  intro x y h e
  injection e with _ e
  exact h (by omega)
theorem want1_topic {m : List Mem} {t : Topic} {x : Part} (h : x ∈ want1 m t) : x.topic = t.name := by
  unfold want1 at h
  split at h
  · simp at h
  · exact (mem_strip.1 h).1
theorem expect_nodup {l : List Topic} (m : List Mem) (h : topicsOk l) : (expect l m).Nodup := by
  unfold expect List.Nodup
  rw [List.pairwise_flatMap]
  refine ⟨fun t _ => ?_, (topics_apart h).imp ?_⟩
  · unfold want1
    split
    · exact .nil
    · exact strip_nodup _ _ _
  · intro s t hne x hx y hy e
    subst e
    exact hne ((want1_topic hx).symm.trans (want1_topic hy))
theorem PlanOk.uniq {l : List Topic} {m : List Mem} {G : List (List Part)} (h : PlanOk l m G) (hl : topicsOk l) : ∀ (i j : Nat) (hi : i < G.length) (hj : j < G.length) (x : Part), x ∈ G[i] → x ∈ G[j] → i = j := by
  have h1 : G.flatten.Nodup := (h.perm.nodup_iff).2 (expect_nodup m hl)
  unfold List.Nodup at h1
  rw [List.pairwise_flatten, List.pairwise_iff_getElem] at h1
  intro i j hi hj x hxi hxj
  rcases Nat.lt_trichotomy i j with h2 | h2 | h2
  · exact absurd rfl (h1.2 i j hi hj h2 x hxi x hxj)
  · exact h2
  · exact absurd rfl (h1.2 j i hj hi h2 x hxj x hxi)
theorem PlanOk.who {l : List Topic} {m : List Mem} {G : List (List Part)} (h : PlanOk l m G) (hl : topicsOk l) (i : Nat) (hi : i < G.length) (x : Part) (hx : x ∈ G[i]) : whose G x = (i : Int) :=
  whose_at hi hx (fun j hj hxj => by have := h.uniq hl i j hi (by omega) x hx hxj; omega)
theorem PlanOk.has {l : List Topic} {m : List Mem} {G : List (List Part)} (h : PlanOk l m G) (hl : topicsOk l) {x : Part} (hx : x ∈ expect l m) : 0 ≤ whose G x := by
  have h1 := h.perm.symm.subset hx
  obtain ⟨r, hr, hxr⟩ := List.mem_flatten.1 h1
  obtain ⟨i, hi, rfl⟩ := List.getElem_of_mem hr
  rw [h.who hl i hi x hxr]
  omega

/-! ### by stretches -/
theorem fm_append {α β : Type} (f g : α → List β) : ∀ L : List α, (L.flatMap fun i => f i ++ g i).Perm (L.flatMap f ++ L.flatMap g)
  | [] => .refl _
  | a :: L => by
    simp only [List.flatMap_cons]
    refine ((fm_append f g L).append_left (f a ++ g a)).trans ?_
    simp only [List.append_assoc]
    refine List.Perm.append_left _ ?_
    rw [← List.append_assoc, ← List.append_assoc]
    exact List.Perm.append_right _ List.perm_append_comm
theorem fm_swap {α β γ : Type} (f : α → β → List γ) (L : List α) : ∀ l : List β, (L.flatMap fun i => l.flatMap (f i)).Perm (l.flatMap fun t => L.flatMap fun i => f i t)
  | [] => by simp
  | t :: l => by
    simp only [List.flatMap_cons]
    exact (fm_append _ _ L).trans (List.Perm.append_left _ (fm_swap f L l))
theorem strip_append (t : ByteArray) (a n k : Nat) : strip t a n ++ strip t (a + n) k = strip t a (n + k) := by
  unfold strip
  rw [← List.map_append, List.range'_append_1]
theorem parts_upto (m : List Mem) (t : Topic) : ∀ k, k ≤ m.length → (List.range k).flatMap (fun i => part1 m i t) = strip t.name 0 (fromK (ahead m k t.name) t.n.toNat (ahead m m.length t.name))
  | 0, _ => by
    rw [ahead_zero]
    simp [fromK, strip]
  | k + 1, hk => by
    rw [List.range_succ, List.flatMap_append, parts_upto m t k (by omega)]
    simp only [List.flatMap_cons, List.flatMap_nil, List.append_nil]
    by_cases hw : wantsAt m k t.name
    · rw [part1_yes hw, ahead_yes hw.1 hw.2]
      have h1 := fromK_mono t.n.toNat (ahead m m.length t.name) (ahead m k t.name) (ahead m k t.name + 1) (by omega)
      have h2 := strip_append t.name 0 (fromK (ahead m k t.name) t.n.toNat (ahead m m.length t.name)) (fromK (ahead m k t.name + 1) t.n.toNat (ahead m m.length t.name) - fromK (ahead m k t.name) t.n.toNat (ahead m m.length t.name))
      rw [Nat.zero_add] at h2
      rw [h2]
      congr 1
      omega
    · rw [part1_no hw, List.append_nil, ahead_no (by omega) (fun h => hw ⟨by omega, h⟩)]
theorem parts_all (m : List Mem) (t : Topic) : (List.range m.length).flatMap (fun i => part1 m i t) = want1 m t := by
  rw [parts_upto m t m.length (Nat.le_refl _)]
  unfold want1
  split
  · rename_i h; rw [h]; simp [fromK, strip]
  · rename_i h
    congr 1
    unfold fromK
    have h1 := Nat.mod_lt t.n.toNat (Nat.pos_of_ne_zero h)
    rw [Nat.min_eq_right (by omega)]
    exact Nat.div_add_mod _ _
theorem part1_mem {m : List Mem} {i : Nat} {t : Topic} {x : Part} (h : x ∈ part1 m i t) : x.topic = t.name ∧ wantsAt m i t.name := by
  by_cases hw : wantsAt m i t.name
  · rw [part1_yes hw] at h
    exact ⟨(mem_strip.1 h).1, hw⟩
  · rw [part1_no hw] at h
    simp at h
theorem range_ok (l : List Topic) (m : List Mem) : PlanOk l m (rangeG l m) := by
  refine ⟨by simp [rangeG], fun i h x hx => ?_, ?_⟩
  · simp only [rangeG, List.getElem_map, List.getElem_range, rangeRow, List.mem_flatMap] at hx
    obtain ⟨t, ht, hx⟩ := hx
    obtain ⟨h1, h2⟩ := part1_mem hx
    rw [h1]; exact h2
  · unfold rangeG expect
    rw [← List.flatMap_def]
    refine (fm_swap (fun i t => part1 m i t) (List.range m.length) l).trans ?_
    rw [show (fun t => (List.range m.length).flatMap fun i => part1 m i t) = want1 m from funext (parts_all m)]

/-! ### one after the other -/
theorem modify_flatten {α : Type} (x : α) : ∀ (G : List (List α)) (i : Nat), i < G.length → (G.modify i (· ++ [x])).flatten.Perm (G.flatten ++ [x])
  | [], i, h => by simp at h
  | r :: G, 0, _ => by
    simp only [List.modify_zero_cons, List.flatten_cons, List.append_assoc]
    exact List.Perm.append_left _ List.perm_append_comm
  | r :: G, i + 1, h => by
    simp only [List.modify_succ_cons, List.flatten_cons, List.append_assoc]
    exact List.Perm.append_left _ (modify_flatten x G i (by simpa using h))
theorem topR_flatten (m : List Mem) (s : List (List Part) × Nat) (t : Topic) (hs : s.1.length = m.length) : ∀ n : Nat, (topR m s t n).1.flatten.Perm (s.1.flatten ++ if ahead m m.length t.name = 0 then [] else strip t.name 0 n)
  | 0 => by
    rw [topR_zero, strip_zero]
    simp
  | n + 1 => by
    by_cases h : ahead m m.length t.name = 0
    · rw [topR_none (fun i => ahead_all_zero h i), if_pos h, List.append_nil]
    · obtain ⟨i0, hi0⟩ := ahead_pos h
      have ih := topR_flatten m s t hs n
      rw [if_neg h] at ih ⊢
      cases hn : nxt m t.name (topR m s t n).2 with
      | none => exact absurd hi0 (nxt_none_all hn i0)
      | some i =>
        rw [topR_succ, stepR_some _ hn, strip_succ]
        refine (modify_flatten _ _ i (by rw [topR_length, hs]; exact (nxt_wants hn).1)).trans ?_
        rw [← List.append_assoc, Nat.zero_add]
        exact ih.append_right _
theorem allR_flatten (m : List Mem) : ∀ (l : List Topic), (allR m l).1.flatten.Perm (expect l m) := by
  intro l
  have key : ∀ j, j ≤ l.length → (allR m (l.take j)).1.flatten.Perm ((l.take j).flatMap (want1 m)) := by
    intro j
    induction j with
    | zero => intro _; simp [allR]
    | succ j ih =>
      intro hj
      rw [allR_snoc _ _ _ (by omega), List.take_succ_eq_append_getElem (by omega), List.flatMap_append]
      refine (topR_flatten m _ _ (allR_length _ _) _).trans ?_
      simp only [List.flatMap_cons, List.flatMap_nil, List.append_nil]
      exact (ih (by omega)).append_right _
  have := key l.length (Nat.le_refl _)
  rwa [List.take_length] at this
theorem stepR_wants {m : List Mem} {t : ByteArray} {s : List (List Part) × Nat} (n : Nat) (h : ∀ (i : Nat) (hi : i < s.1.length) (x : Part), x ∈ s.1[i] → wantsAt m i x.topic) : ∀ (i : Nat) (hi : i < (stepR m t s n).1.length) (x : Part), x ∈ (stepR m t s n).1[i] → wantsAt m i x.topic := by
  cases hn : nxt m t s.2 with
  | none => simp only [stepR_none n hn]; exact h
  | some i =>
    intro k hk x hx
    simp only [stepR_some n hn] at hk hx
    rw [List.length_modify] at hk
    rw [List.getElem_modify] at hx
    split at hx
    · rename_i e
      subst e
      rcases List.mem_append.1 hx with hx | hx
      · exact h _ hk x hx
      · obtain rfl := List.mem_singleton.1 hx
        exact nxt_wants hn
    · exact h _ hk x hx
theorem topR_wants (m : List Mem) (s : List (List Part) × Nat) (t : Topic) (h : ∀ (i : Nat) (hi : i < s.1.length) (x : Part), x ∈ s.1[i] → wantsAt m i x.topic) : ∀ (n i : Nat) (hi : i < (topR m s t n).1.length) (x : Part), x ∈ (topR m s t n).1[i] → wantsAt m i x.topic
  | 0 => h
  | n + 1 => by
    simp only [topR_succ]
    exact stepR_wants n (topR_wants m s t h n)
theorem robin_ok (l : List Topic) (m : List Mem) : PlanOk l m (robinG l m) := by
  refine ⟨by rw [robinG, allR_length], ?_, allR_flatten m l⟩
  have key : ∀ j, j ≤ l.length → ∀ (i : Nat) (h : i < (allR m (l.take j)).1.length) (x : Part), x ∈ (allR m (l.take j)).1[i] → wantsAt m i x.topic := by
    intro j
    induction j with
    | zero =>
      intro _ i h x hx
      have h0 : (allR m (l.take 0)).1 = List.replicate m.length [] := rfl
      simp only [h0, List.getElem_replicate] at hx
      simp at hx
    | succ j ih =>
      intro hj
      simp only [allR_snoc m l j (by omega)]
      exact topR_wants m _ _ (ih (by omega)) _
  have := key l.length (Nat.le_refl _)
  simp only [List.take_length] at this
  exact this
theorem rangeG_le {l : List Topic} {m : List Mem} (h : checkE l m = 0) : ∀ r ∈ rangeG l m, r.length ≤ 64 := by
  obtain ⟨hl8, hlok, hm8, hmok⟩ := check_ok h
  intro r hr
  obtain ⟨i, hi, rfl⟩ := List.mem_map.1 hr
  have := row_len m i hl8 hlok l.length
  rwa [List.take_length] at this
theorem robinG_le {l : List Topic} {m : List Mem} (h : checkE l m = 0) : ∀ r ∈ robinG l m, r.length ≤ 64 := by
  obtain ⟨hl8, hlok, hm8, hmok⟩ := check_ok h
  intro r hr
  have := allR_le m l (fun t ht => by
    obtain ⟨k, hk, rfl⟩ := List.getElem_of_mem ht
    exact (hlok k hk).1.2.2) r hr
  omega
end Go.Proofs.Ytlkpgeopcdhgjaa
