/-
  Plain laws of what a table remembers: what opening, asking and appending do to it.
-/
import Derived.Test.YtbggmjnhfacjpaaOf08
set_option linter.unusedVariables false
namespace Go.Proofs.Ytbggmjnhfacjpaa
open Go Go.Eng Go.RowKit
/-! ### rows that grow -/
theorem lastD_row {K : Int} {M : Nat} {D : Ds} (h : okD K M D) (k : DKey) : lastD D.S k = [] ∨ rowK K (lastD D.S k) := by
  cases hg : eGet D.S k with
  | none => exact .inl (lastD_none hg)
  | some x => right; rw [lastD_some hg]; exact h.row x (eGet_some hg).1
/-- batches one behind the other -/
def chK (K : Int) (l : List Did) : Prop := ∀ (i : Nat) (h : i < l.length), 0 ≤ l[i].seq ∧ 1 ≤ l[i].n ∧ l[i].seq + l[i].n ≤ K ∧ numB l[i].off ∧ (0 < i → l[i].seq = (l[i - 1]'(by omega)).seq + (l[i - 1]'(by omega)).n)
theorem rowK.ch {K : Int} {l : List Did} (h : rowK K l) : chK K l := h.2.2
theorem chK.mono {K K' : Int} {l : List Did} (h : chK K l) (k : K ≤ K') : chK K' l := fun i hi => by obtain ⟨a, b, c, d⟩ := h i hi; exact ⟨a, b, by omega, d⟩
theorem chK_nil (K : Int) : chK K [] := fun i h => by cases h
theorem chK.drop {K : Int} {l : List Did} (h : chK K l) (n : Nat) : chK K (l.drop n) := by
  intro i hi
  rw [List.length_drop] at hi
  obtain ⟨h1, h2, h3, h4, h5⟩ := h (n + i) (by omega)
  rw [List.getElem_drop]
  refine ⟨h1, h2, h3, h4, fun h0 => ?_⟩
  rw [List.getElem_drop]
  have h6 := h5 (by omega)
  simp only [show n + i - 1 = n + (i - 1) by omega] at h6
  exact h6
theorem chK.snoc {K : Int} {l : List Did} {d : Did} (h : chK K l) (h1 : d.seq = dueL l) (h2 : 0 ≤ d.seq) (h3 : 1 ≤ d.n) (h4 : d.seq + d.n ≤ K) (h5 : numB d.off) : chK K (l ++ [d]) := by
  intro i hi
  rw [List.length_append, List.length_singleton] at hi
  by_cases hil : i < l.length
  · obtain ⟨q1, q2, q3, q4, q5⟩ := h i hil
    rw [List.getElem_append_left hil]
    refine ⟨q1, q2, q3, q4, fun h0 => ?_⟩
    rw [List.getElem_append_left (show i - 1 < l.length by omega)]
    exact q5 h0
  · obtain rfl : i = l.length := by omega
    rw [List.getElem_concat_length rfl]
    refine ⟨h2, h3, h4, h5, fun h0 => ?_⟩
    rw [List.getElem_append_left (show l.length - 1 < l.length by omega), h1, dueL_last (show l.length - 1 + 1 = l.length by omega)]
theorem pushL_row {K : Int} {l : List Did} {d : Did} (h : chK K l) (h1 : d.seq = dueL l) (h2 : 0 ≤ d.seq) (h3 : 1 ≤ d.n) (h4 : d.seq + d.n ≤ K) (h5 : numB d.off) : rowK K (pushL l d) := by
  unfold pushL
  refine ⟨?_, ?_, (h.snoc h1 h2 h3 h4 h5).drop _⟩
  · rw [List.length_drop, List.length_append, List.length_singleton]; omega
  · rw [List.length_drop]; omega
theorem dueL_snoc (l : List Did) (d : Did) : dueL (l ++ [d]) = d.seq + d.n := by
  rw [dueL_last (j := l.length) (by simp), List.getElem_concat_length rfl]
theorem dueL_drop {l : List Did} {n : Nat} (h : n < l.length) : dueL (l.drop n) = dueL l := by
  rw [dueL_last (l := l.drop n) (j := l.length - n - 1) (by rw [List.length_drop]; omega), dueL_last (l := l) (j := l.length - 1) (by omega), List.getElem_drop]
  simp only [show n + (l.length - n - 1) = l.length - 1 by omega]
theorem dueL_push (l : List Did) (d : Did) : dueL (pushL l d) = d.seq + d.n := by
  unfold pushL
  rw [dueL_drop (by rw [List.length_append, List.length_singleton]; omega), dueL_snoc]
/-! ### the calls keep the state as it may be -/
theorem isD_append {E : List Int} {id : Int} (h : isD E id) (x : Int) : isD (E ++ [x]) id := by
  unfold isD at *
  rw [List.length_append, List.length_singleton]
  omega
theorem ep_append {E : List Int} {id : Int} (h : isD E id) (x : Int) : ep (E ++ [x]) id = ep E id := by
  unfold ep isD at *
  rw [List.getElem?_append_left (by omega)]
theorem ep_snoc (E : List Int) (x : Int) : ep (E ++ [x]) ((E.length : Int) + 1) = x := by
  unfold ep
  rw [show ((E.length : Int) + 1 - 1).toNat = E.length by omega, List.getElem?_concat_length]
  rfl
theorem ep_set {E : List Int} {id : Int} (h : isD E id) (x : Int) : ep (E.set (id - 1).toNat x) id = x := by
  unfold ep isD at *
  rw [List.getElem?_set_self (by omega)]
  rfl
theorem ep_set_ne {E : List Int} {id id' : Int} (h : isD E id) (h2 : isD E id') (hne : id ≠ id') (x : Int) : ep (E.set (id - 1).toNat x) id' = ep E id' := by
  unfold ep isD at *
  rw [List.getElem?_set_ne (by omega)]
theorem ep_num {K : Int} {M : Nat} {D : Ds} (h : okD K M D) (id : Int) : numB (ep D.E id) := by
  unfold ep
  cases hg : D.E[(id - 1).toNat]? with
  | none => exact ⟨by decide, by decide⟩
  | some x => exact h.num x (List.mem_of_getElem? hg)
theorem okD_open {K : Int} {M : Nat} {D : Ds} (h : okD K M D) (id : Int) : okD K M (openD D id) := by
  unfold openD
  split
  · exact h
  · rename_i h0
    split
    · rename_i h1
      have hl : D.E.length < 32 := Nat.lt_of_not_le fun e => h0 ⟨h1, e⟩
      refine ⟨by rw [List.length_append, List.length_singleton]; exact hl, fun e he => ?_, h.srt, fun x hx => isD_append (h.id x hx) 0, h.row, h.cnt⟩
      rcases List.mem_append.1 he with he | he
      · exact h.num e he
      · obtain rfl := List.mem_singleton.1 he
        exact ⟨by decide, by decide⟩
    · split
      · exact h
      · split
        · exact h
        · rename_i h3
          have hn := ep_num h id
          refine ⟨by rw [List.length_set]; exact h.len, fun e he => ?_, h.srt.sublist List.filter_sublist, fun x hx => ?_, fun x hx => h.row x (List.mem_filter.1 hx).1, Nat.le_trans (List.length_filter_le _ _) h.cnt⟩
          · rcases List.mem_or_eq_of_mem_set he with he | rfl
            · exact h.num e he
            · unfold numB at *; omega
          · have := h.id x (List.mem_filter.1 hx).1
            unfold isD at *
            rw [List.length_set]
            exact this
/-- what is asked and told, by numbers -/
def isN (seq : Int) (n : Nat) (d : Did) : Prop := d.seq = seq ∧ d.n = (n : Int)
instance (seq : Int) (n : Nat) (d : Did) : Decidable (isN seq n d) := inferInstanceAs (Decidable (_ ∧ _))
def idxN (l : List Did) (seq : Int) (n : Nat) : Option Nat := l.findIdx? fun d => decide (isN seq n d)
def askN (D : Ds) (p : Part) (id epoch seq : Int) (n : Nat) : Int × Bool × Int :=
  if id = 0 then (0, false, 0)
  else if ¬ isD D.E id then (0, false, 80)
  else if epoch < ep D.E id then (0, false, 81)
  else if ep D.E id < epoch then (0, false, 80)
  else if seq = dueL (lastD D.S ⟨id, p⟩) then (0, false, 0)
  else match idxN (lastD D.S ⟨id, p⟩) seq n with
    | none => (0, false, 82)
    | some i => ((((lastD D.S ⟨id, p⟩)[i]?).map Did.off).getD 0, true, 0)
theorem askA_N (D : Ds) (p : Part) (b : Bat) : askA D p b = askN D p b.prod b.epoch b.seq b.recs.length := rfl
def doneEN (D : Ds) (p : Part) (id epoch seq : Int) (n : Nat) (off : Int) : Int :=
  if (askN D p id epoch seq n).2.2 ≠ 0 then (askN D p id epoch seq n).2.2 else if (askN D p id epoch seq n).2.1 = true then 82 else if (n : Int) = 0 ∨ ¬ numB off then 1 else 0
def doneDN (D : Ds) (p : Part) (id epoch seq : Int) (n : Nat) (off : Int) : Ds :=
  if doneEN D p id epoch seq n off = 0 ∧ id ≠ 0 then ⟨D.E, ePut D.S ⟨id, p, pushL (lastD D.S ⟨id, p⟩) ⟨seq, (n : Int), off⟩⟩⟩ else D
theorem doneE_N (D : Ds) (p : Part) (b : Bat) (off : Int) : doneE D p b off = doneEN D p b.prod b.epoch b.seq b.recs.length off := rfl
theorem doneD_N (D : Ds) (p : Part) (b : Bat) (off : Int) : doneD D p b off = doneDN D p b.prod b.epoch b.seq b.recs.length off := rfl
theorem idxN_some {l : List Did} {seq : Int} {n i : Nat} (h : idxN l seq n = some i) : ∃ hi : i < l.length, isN seq n l[i] := by
  unfold idxN at h
  rw [List.findIdx?_eq_some_iff_getElem] at h
  obtain ⟨hi, h1, _⟩ := h
  exact ⟨hi, by simpa using h1⟩
/-- a batch that is to be appended -/
theorem done_ok {D : Ds} {p : Part} {id epoch seq off : Int} {n : Nat} (h : doneEN D p id epoch seq n off = 0) (h0 : id ≠ 0) : isD D.E id ∧ epoch = ep D.E id ∧ seq = dueL (lastD D.S ⟨id, p⟩) ∧ 1 ≤ n ∧ numB off := by
  unfold doneEN at h
  split at h
  · rename_i h1; exact absurd h h1
  · rename_i h1
    split at h
    · cases h
    · rename_i h2
      split at h
      · cases h
      · rename_i h3
        have hn : 1 ≤ n ∧ numB off := ⟨by omega, Classical.byContradiction fun e => h3 (.inr e)⟩
        unfold askN at h1 h2
        rw [if_neg h0] at h1 h2
        split at h1
        · exact absurd (by decide) h1
        · rename_i h4
          rw [if_neg h4] at h2
          split at h1
          · exact absurd (by decide) h1
          · rename_i h5
            rw [if_neg h5] at h2
            split at h1
            · exact absurd (by decide) h1
            · rename_i h6
              rw [if_neg h6] at h2
              split at h1
              · rename_i h7
                exact ⟨Classical.not_not.1 h4, by omega, h7, hn⟩
              · rename_i h7
                rw [if_neg h7] at h2
                split at h1
                · exact absurd (by decide) h1
                · rename_i h8
                  rw [h8] at h2
                  exact absurd rfl h2
theorem ask_due {D : Ds} {p : Part} {id epoch seq : Int} {n : Nat} (h0 : id ≠ 0) (h1 : isD D.E id) (h2 : epoch = ep D.E id) (h3 : seq = dueL (lastD D.S ⟨id, p⟩)) : askN D p id epoch seq n = (0, false, 0) := by
  unfold askN
  rw [if_neg h0, if_neg (not_not_intro h1), if_neg (by omega), if_neg (by omega), if_pos h3]
theorem done_due {D : Ds} {p : Part} {id epoch seq off : Int} {n : Nat} (h0 : id ≠ 0) (h1 : isD D.E id) (h2 : epoch = ep D.E id) (h3 : seq = dueL (lastD D.S ⟨id, p⟩)) (h4 : 1 ≤ n) (h5 : numB off) : doneEN D p id epoch seq n off = 0 := by
  unfold doneEN
  rw [ask_due h0 h1 h2 h3, if_neg (by decide), if_neg (by decide), if_neg]
  rintro (h | h)
  · omega
  · exact h h5
theorem okD_done {K : Int} {M : Nat} {D : Ds} (h : okD K M D) (hK : 0 ≤ K) (p : Part) (id epoch seq : Int) (n : Nat) (off : Int) : okD (K + n) (M + 1) (doneDN D p id epoch seq n off) := by
  unfold doneDN
  split
  · rename_i hc
    obtain ⟨h1, h2, h3, h4, h5⟩ := done_ok hc.1 hc.2
    have hd := lastD_due h hK ⟨id, p⟩
    refine ⟨h.len, h.num, ePut_sorted h.srt _, fun x hx => ?_, fun x hx => ?_, ?_⟩
    · rcases ePut_mem.1 hx with rfl | ⟨h6, _⟩
      · exact h1
      · exact h.id x h6
    · rcases ePut_mem.1 hx with rfl | ⟨h6, _⟩
      · refine pushL_row ?_ h3 (by show 0 ≤ seq; omega) (by show 1 ≤ (n : Int); omega) (by show seq + (n : Int) ≤ _; omega) h5
        rcases lastD_row h ⟨id, p⟩ with h7 | h7
        · rw [h7]; exact chK_nil _
        · exact h7.ch.mono (by omega)
      · exact (h.row x h6).mono (by omega)
    · have := ePut_le D.S (⟨id, p, pushL (lastD D.S ⟨id, p⟩) ⟨seq, (n : Int), off⟩⟩ : Pl)
      have := h.cnt
      show (ePut D.S _).length ≤ _
      omega
  · exact h.mono (by omega) (by omega)
/-! ### what is remembered behind a call -/
theorem eGet_put {V K : Type} [Keyed V K] [DecidableEq K] [KOrd K] {S : List V} (hs : S.Pairwise bfr) (v : V) (k : K) : eGet (ePut S v) k = if key v = k then some v else eGet S k := by
  have hn := srt_nodup (ePut_sorted hs v)
  split
  · rename_i h
    subst h
    exact eGet_mem hn (ePut_mem.2 (.inl rfl))
  · rename_i h
    cases hg : eGet S k with
    | none =>
      rw [eGet_none] at hg ⊢
      intro x hx
      rcases ePut_mem.1 hx with rfl | ⟨h1, _⟩
      · exact h
      · exact hg x h1
    | some y =>
      obtain ⟨h1, rfl⟩ := eGet_some hg
      exact eGet_mem hn (ePut_mem.2 (.inr ⟨h1, fun e => h e.symm⟩))
theorem done_E {D : Ds} {p : Part} {id epoch seq off : Int} {n : Nat} : (doneDN D p id epoch seq n off).E = D.E := by
  unfold doneDN
  split <;> rfl
theorem done_last {K : Int} {M : Nat} {D : Ds} (h : okD K M D) {p : Part} {id epoch seq off : Int} {n : Nat} (hE : doneEN D p id epoch seq n off = 0) (h0 : id ≠ 0) (k : DKey) : lastD (doneDN D p id epoch seq n off).S k = if k = ⟨id, p⟩ then pushL (lastD D.S ⟨id, p⟩) ⟨seq, (n : Int), off⟩ else lastD D.S k := by
  unfold doneDN
  rw [if_pos ⟨hE, h0⟩]
  unfold lastD
  rw [eGet_put h.srt]
  show ((if (⟨id, p⟩ : DKey) = k then _ else _ : Option Pl).map Pl.last).getD [] = _
  by_cases hk : k = ⟨id, p⟩
  · subst hk; rw [if_pos rfl, if_pos rfl]; rfl
  · rw [if_neg hk, if_neg (fun e => hk e.symm)]
theorem eGet_filter {S : List Pl} (f : DKey → Bool) (k : DKey) : eGet (S.filter fun x => f (key x)) k = if f k = true then eGet S k else none := by
  unfold eGet
  rw [List.find?_filter]
  split
  · rename_i h
    congr 1
    funext x
    by_cases hk : key x = k
    · subst hk; simp [h]
    · simp [hk]
  · rename_i h
    rw [List.find?_eq_none]
    intro x _
    simp only [decide_eq_true_eq, not_and]
    rintro h1 rfl
    exact h h1
theorem open_last {D : Ds} {id : Int} (h1 : isD D.E id) (h2 : ep D.E id < 1099511627776) (k : DKey) : lastD (openD D id).S k = if k.id = id then [] else lastD D.S k := by
  have h0 : id ≠ 0 := fun e => by unfold isD at h1; omega
  unfold openD
  rw [if_neg (fun e => h0 e.1), if_neg h0, if_neg (not_not_intro h1), if_neg (by omega)]
  unfold lastD
  have he := eGet_filter (S := D.S) (fun k => decide (k.id ≠ id)) k
  rw [show (D.S.filter fun x => decide (x.id ≠ id)) = D.S.filter fun x => (fun k : DKey => decide (k.id ≠ id)) (key x) from rfl, he]
  by_cases hk : k.id = id
  · rw [if_neg (by simp [hk]), if_pos hk]; rfl
  · rw [if_pos (by simp [hk]), if_neg hk]
theorem open_up {D : Ds} {id : Int} (h1 : isD D.E id) (h2 : ep D.E id < 1099511627776) : openA D id = (id, ep D.E id + 1, 0) ∧ (openD D id).E = D.E.set (id - 1).toNat (ep D.E id + 1) := by
  have h0 : id ≠ 0 := fun e => by unfold isD at h1; omega
  unfold openA openD
  rw [if_neg (fun e => h0 e.1), if_neg h0, if_neg (not_not_intro h1), if_neg (by omega), if_neg (fun e => h0 e.1), if_neg h0, if_neg (not_not_intro h1), if_neg (by omega)]
  exact ⟨rfl, rfl⟩
theorem open_new {D : Ds} (h : D.E.length < 32) : openA D 0 = ((D.E.length : Int) + 1, 0, 0) ∧ openD D 0 = ⟨D.E ++ [0], D.S⟩ := by
  unfold openA openD
  rw [if_neg (fun e => by omega), if_pos rfl, if_neg (fun e => by omega), if_pos rfl]
  exact ⟨rfl, rfl⟩
end Go.Proofs.Ytbggmjnhfacjpaa
