/-
  Regions whose first operations only read, calls among them, and whose others wait for all of these.
-/
import Derived.Test.YtbggmjnhfacjpaaAl
set_option linter.unusedVariables false
namespace Go.Eng
open Go Go.RowKit

theorem wpAny_more {P : Program} {md : Region.Mode} {ops : Array Oper} {Q : Exit → Act → World → Prop} : ∀ (f : Nat) (listed : Array Bool) (a : Act) (w : World), wpAny P md ops Q f listed a w → wpAny P md ops Q (f + 1) listed a w
  | 0, listed, a, w, h => ⟨fun _ => h.2, fun i hi => by rw [h.1] at hi; cases hi⟩
  | f + 1, listed, a, w, h => ⟨h.1, fun i hi => wpOp_mono (fun a w h => wpAny_more f _ a w h) (h.2 i hi)⟩
theorem wpAny_plus {P : Program} {md : Region.Mode} {ops : Array Oper} {Q : Exit → Act → World → Prop} {listed : Array Bool} {a : Act} {w : World} {f : Nat} (h : wpAny P md ops Q f listed a w) : ∀ k, wpAny P md ops Q (f + k) listed a w
  | 0 => h
  | k + 1 => wpAny_more _ _ _ _ (wpAny_plus h k)

/-- the first q wait for what stands ahead of them; the others wait for all of them; no guards among the first -/
def preOk (ops : Array Oper) (q : Nat) : Bool :=
  Nat.ble q ops.size && (List.range q).all (fun i => match ops[i]? with
    | some o => o.guard.isNone && o.after.all (fun e => !Region.binds .any e || Nat.blt e.on i)
    | none => false) && (List.range ops.size).all (fun j => Nat.blt j q || (List.range q).all fun i => waitsFor ops (ancs ops) j i)

/-- two lists of what has been, of all and of the first q -/
structure Both (ops : Array Oper) (q : Nat) (listed lq : Array Bool) : Prop where
  size : listed.size = ops.size
  sizeq : lq.size = q
  lo : ∀ i, i < q → listed[i]? = lq[i]?
  hi : ∀ i, q ≤ i → i < ops.size → listed[i]? = some false

section
variable {P : Program} {ops : Array Oper} {q : Nat} {C : World → Prop} {Q : Act → Prop} {Q' : Exit → Act → World → Prop}
theorem Both.getD {listed lq : Array Bool} (hb : Both ops q listed lq) {i : Nat} (hi : i < q) (d : Bool) : listed.getD i d = lq.getD i d := by
  rw [Array.getD_eq_getD_getElem?, Array.getD_eq_getD_getElem?, hb.lo i hi]
theorem wpAny_pre (hok : preOk ops q = true) {f2 : Nat} (rest : ∀ a w, C w → Q a → ∀ listed lq, Both ops q listed lq → (∀ i, i < q → lq.getD i false = true) → Closed ops listed → wpAny P .any ops Q' f2 listed a w) :
    ∀ (fuel : Nat) (listed lq : Array Bool) (a : Act) (w : World), Both ops q listed lq → Closed ops listed → C w → wpAnyQ P .any (ops.extract 0 q) C Q fuel lq a → wpAny P .any ops Q' (fuel + f2) listed a w := by
  simp only [preOk, Bool.and_eq_true, List.all_eq_true, List.mem_range] at hok
  obtain ⟨⟨hq, hpre⟩, hpost⟩ := hok
  have hq : q ≤ ops.size := Nat.le_of_ble_eq_true hq
  have hop : ∀ i, i < q → (ops.extract 0 q)[i]? = ops[i]? := by
    intro i hi
    rw [Array.getElem?_extract_of_lt (by omega)]
    simp
  have hg : ∀ i o, i < q → ops[i]? = some o → o.guard = none ∧ ∀ e ∈ o.after, Region.binds .any e = true → e.on < i := by
    intro i o hi ho
    have h1 := hpre i hi
    simp only [ho, Bool.and_eq_true, Option.isNone_iff_eq_none, Array.all_eq_true_iff_forall_mem, Bool.or_eq_true, Bool.not_eq_true'] at h1
    refine ⟨h1.1, fun e he hb => ?_⟩
    rcases h1.2 e he with h2 | h2
    · rw [hb] at h2; cases h2
    · simpa using h2
  -- what may come up now
  have hready : ∀ (listed lq : Array Bool), Both ops q listed lq → ∀ i, i < q → (i ∈ Region.ready .any ops listed ↔ i ∈ Region.ready .any (ops.extract 0 q) lq) := by
    intro listed lq hb i hi
    rw [mem_ready, mem_ready, hop i hi, hb.getD hi]
    constructor
    · rintro ⟨h1, o, h2, h3⟩
      exact ⟨h1, o, h2, fun e he hbb => by rw [← hb.getD (by have := (hg i o hi h2).2 e he hbb; omega)]; exact h3 e he hbb⟩
    · rintro ⟨h1, o, h2, h3⟩
      exact ⟨h1, o, h2, fun e he hbb => by rw [hb.getD (by have := (hg i o hi h2).2 e he hbb; omega)]; exact h3 e he hbb⟩
  -- none may come up: all have
  have hend : ∀ (listed lq : Array Bool), Both ops q listed lq → Region.ready .any (ops.extract 0 q) lq = [] → ∀ i, i < q → lq.getD i false = true := by
    intro listed lq hb h0 i
    induction i using Nat.strongRecOn with
    | _ i ih =>
      intro hi
      have hsz : i < lq.size := by rw [hb.sizeq]; exact hi
      cases hv : lq.getD i false with
      | true => rfl
      | false =>
        exfalso
        have hlt : i < ops.size := by omega
        have hmem : i ∈ Region.ready .any (ops.extract 0 q) lq := by
          rw [mem_ready]
          refine ⟨?_, ops[i], ?_, ?_⟩
          · simpa [hsz] using hv
          · rw [hop i hi]; exact Array.getElem?_eq_getElem hlt
          · intro e he hbb
            have h1 := (hg i _ hi (Array.getElem?_eq_getElem hlt)).2 e he hbb
            exact ih _ h1 (by omega)
        rw [h0] at hmem
        cases hmem
  intro fuel
  induction fuel with
  | zero =>
    intro listed lq a w hb hc hw h
    exact (Nat.zero_add f2).symm ▸ rest a w hw h.2 listed lq hb (hend listed lq hb h.1) hc
  | succ fuel ih =>
    intro listed lq a w hb hc hw h
    by_cases h0 : Region.ready .any (ops.extract 0 q) lq = []
    · have := wpAny_plus (rest a w hw (h.1 h0) listed lq hb (hend listed lq hb h0) hc) (fuel + 1)
      rwa [Nat.add_comm] at this
    · rw [Nat.add_right_comm]
      obtain ⟨i0, hi0⟩ := List.exists_mem_of_ne_nil _ h0
      have hi0q : i0 < q := by
        have := (mem_ready.1 hi0).1
        rcases Nat.lt_or_ge i0 lq.size with h' | h'
        · rw [hb.sizeq] at h'; exact h'
        · simp [Array.getElem?_eq_none h'] at this
      have hi0u : listed.getD i0 false = false := by
        rw [hb.getD hi0q]
        exact getD_both' (mem_ready.1 hi0).1
      refine ⟨fun hn => ?_, fun i hi => ?_⟩
      · have := (hready listed lq hb i0 hi0q).2 hi0
        rw [hn] at this
        cases this
      · have hisz : i < ops.size := by
          obtain ⟨_, o, ho, _⟩ := mem_ready.1 hi
          exact (Array.getElem?_eq_some_iff.1 ho).1
        have hiq : i < q := by
          rcases Nat.lt_or_ge i q with h' | h'
          · exact h'
          · have h1 := hpost i hisz
            have hnb : Nat.blt i q = false := by
              cases hh : Nat.blt i q
              · rfl
              · have : i < q := by simpa using hh
                omega
            simp only [hnb, Bool.false_or, List.all_eq_true, List.mem_range] at h1
            exact absurd hi (waits_not_ready hc (h1 i0 hi0q) hi0u)
        have h2 := h.2 i ((hready listed lq hb i hiq).1 hi)
        have hoi : ops[i]? = some ops[i] := Array.getElem?_eq_getElem hisz
        have hgi := (hg i _ hiq hoi).1
        have hset : Both ops q (listed.setIfInBounds i true) (lq.setIfInBounds i true) := by
          refine ⟨by simp [hb.size], by simp [hb.sizeq], fun j hj => ?_, fun j hj hj2 => ?_⟩
          · by_cases hij : i = j
            · subst hij
              rw [Array.getElem?_setIfInBounds_self_of_lt (by rw [hb.size]; exact hisz), Array.getElem?_setIfInBounds_self_of_lt (by rw [hb.sizeq]; exact hj)]
            · rw [Array.getElem?_setIfInBounds_ne hij, Array.getElem?_setIfInBounds_ne hij, hb.lo j hj]
          · rw [Array.getElem?_setIfInBounds_ne (by omega), hb.hi j hj hj2]
        have h3 : qOp P ops C i (wpAnyQ P .any (ops.extract 0 q) C Q fuel (lq.setIfInBounds i true)) a := by
          unfold qOp at h2 ⊢
          rw [hop i hiq] at h2
          simp only [hoi] at h2 ⊢
          rw [wanted_none hgi] at h2 ⊢
          exact h2
        exact wpOp_of_qOp hw (fun a' w' hw' hk => ih _ _ a' w' hset (hc.set hi) hw' hk) h3
end
section
variable {P : Program} {n : Nat} {l : List Oper} {K : Env → World → Prop} {e : Env} {w : World}
theorem lst_size (m : Nat) : ∀ done, (lst m done).size = m
  | [] => by simp [lst]
  | i :: done => by simp [lst, lst_size m done]
theorem lst_get (m : Nat) : ∀ (done : List Nat) (i : Nat), i < m → (lst m done)[i]? = some (decide (i ∈ done))
  | [], i, h => by simp [lst, h]
  | j :: done, i, h => by
    have ih := lst_get m done i h
    simp only [lst]
    by_cases hij : j = i
    · subst hij
      rw [Array.getElem?_setIfInBounds_self_of_lt (by rw [lst_size]; exact h)]
      simp
    · rw [Array.getElem?_setIfInBounds_ne hij, ih]
      simp [Ne.symm hij]
theorem AL.quiet (q : Nat) (done : List Nat) (hok : preOk l.toArray q = true) (hB : Region.lexB .any (l.take q).toArray = true) (hdn : (List.range l.length).all (fun i => Nat.blt i q == done.contains i) = true)
    (h : QL P n (l.take q).toArray w (l.take q) (fun e' => ∀ w', Ext w w' → AL P n l.toArray (l.length - q) done K e' w') e) : AL P n l.toArray l.length [] K e w := by
  unfold AL at h ⊢
  unfold QL at h
  intro hc a ha
  have hq : q ≤ l.length := by
    simp only [preOk, Bool.and_eq_true] at hok
    have := Nat.le_of_ble_eq_true hok.1.1
    simpa using this
  have hex : l.toArray.extract 0 q = (l.take q).toArray := by
    apply Array.toList_inj.1
    simp
  have hall : ∀ i, i < l.length → (i < q ↔ i ∈ done) := by
    intro i hi
    have := List.all_eq_true.1 hdn i (List.mem_range.2 hi)
    rw [beq_iff_eq] at this
    rw [show (i < q) ↔ Nat.blt i q = true by simp, this]
    simp
  have hQ := h a ha
  simp only [Region.lexB, Bool.and_eq_true] at hB
  have hwq := wpAnyQ_lex (C := fun w' => Ext w w') (md := .any) (P := P) hB.1 (l.take q) 0 (Array.replicate (l.take q).toArray.size false) a (by simp) (by simpa using hB.2) hQ
  have hlen : (l.take q).length = q := by rw [List.length_take]; omega
  rw [hlen, ← hex] at hwq
  have := wpAny_pre (P := P) (ops := l.toArray) (q := q) (C := fun w' => Ext w w') (Q' := NQ fun a' w' => ∃ e', Rel n e' a' ∧ K e' w') (f2 := l.length - q) hok ?_ q (lst l.toArray.size []) _ a w ?_ hc (Ext.refl w) hwq
  · rwa [Nat.add_sub_cancel' hq] at this
  · rintro a' w' hw' ⟨e', hr, hk⟩ listed lq hb hlq hcl
    have hle : listed = lst l.toArray.size done := by
      apply Array.ext_getElem?
      intro i
      rcases Nat.lt_or_ge i l.length with h' | h'
      · rw [lst_get _ _ _ (by simpa using h')]
        by_cases hiq : i < q
        · rw [hb.lo i hiq]
          have h1 := hlq i hiq
          have h2 : i < lq.size := by rw [hb.sizeq]; exact hiq
          simp [h2] at h1
          simp [h2, h1, (hall i h').1 hiq]
        · rw [hb.hi i (by omega) (by simpa using h')]
          have : i ∉ done := fun hm => hiq ((hall i h').2 hm)
          simp [this]
      · rw [Array.getElem?_eq_none (by rw [hb.size]; simpa using h'), Array.getElem?_eq_none (by rw [lst_size]; simpa using h')]
    rw [hle] at hcl ⊢
    exact hk w' hw' hcl a' hr
  · refine ⟨by simp [lst], by simp; omega, fun i hi => ?_, fun i hi hi2 => ?_⟩
    · have h1 : i < l.length := by omega
      have h2 : i < (l.take q).length := by rw [hlen]; exact hi
      simp only [lst, List.size_toArray]
      rw [Array.getElem?_replicate, Array.getElem?_replicate, if_pos h1, if_pos (by rw [hex]; exact h2)]
    · have : i < l.length := by simpa using hi2
      simp [lst, this]
end
end Go.Eng
