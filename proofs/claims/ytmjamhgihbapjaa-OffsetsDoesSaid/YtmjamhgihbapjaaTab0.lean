/-
  Tables of marks: what they hold, as a list in order.
-/
import Derived.Test.YtmjamhgihbapjaaMarks
import Derived.Test.YtmjamhgihbapjaaRng
set_option linter.unusedVariables false
namespace Go.Proofs.Ytmjamhgihbapjaa
open Go Go.Eng Go.RowKit
def prS (x : Mrk) : MKey × Value := (x.key, Value.int .i64 x.off)
def prB (x : MKey × Value × Nat) : MKey × Value := (x.1, x.2.1)
/-- the map's entries are S's marks -/
def Rep (lb : List (MKey × Value × Nat)) (S : List Mrk) : Prop := (lb.map prB).Perm (S.map prS)
def getS (S : List Mrk) (k : MKey) : Option Int := (S.find? fun x => decide (x.key = k)).map (·.off)
def putS (S : List Mrk) (m : Mrk) : List Mrk := S.filter (fun x => decide (bef x m)) ++ m :: S.filter (fun x => decide (bef m x))
def raise1 (p : Part) (least : Int) (x : Mrk) : Mrk := if (x.topic = p.topic ∧ x.n = p.n) ∧ x.off < least then { x with off := least } else x
def raiseS (S : List Mrk) (p : Part) (least : Int) : List Mrk := S.map (raise1 p least)
def raiseN (S : List Mrk) (p : Part) (least : Int) : Nat := S.countP fun x => decide ((x.topic = p.topic ∧ x.n = p.n) ∧ x.off < least)
def dropS (S : List Mrk) (g : ByteArray) : List Mrk := S.filter fun x => decide (x.group ≠ g)
def dropN (S : List Mrk) (g : ByteArray) : Nat := S.countP fun x => decide (x.group = g)
theorem rep_keys {lb : List (MKey × Value × Nat)} {S : List Mrk} (h : Rep lb S) : (lb.map (·.1)).Perm (S.map Mrk.key) := by
  have := h.map Prod.fst
  rw [List.map_map, List.map_map] at this
  exact this
theorem rep_nodup {lb : List (MKey × Value × Nat)} {S : List Mrk} (h : Rep lb S) (hn : (lb.map (·.1)).Nodup) : (S.map Mrk.key).Nodup := (rep_keys h).nodup_iff.1 hn
theorem rep_len {lb : List (MKey × Value × Nat)} {S : List Mrk} (h : Rep lb S) : lb.length = S.length := by
  have := h.length_eq
  simpa using this
theorem key_inj {S : List Mrk} (hn : (S.map Mrk.key).Nodup) {x y : Mrk} (hx : x ∈ S) (hy : y ∈ S) (h : x.key = y.key) : x = y := by
  obtain ⟨i, hi, rfl⟩ := List.getElem_of_mem hx
  obtain ⟨j, hj, rfl⟩ := List.getElem_of_mem hy
  have h1 : (S.map Mrk.key)[i]? = (S.map Mrk.key)[j]? := by simp [hi, hj, h]
  have : i = j := (List.getElem?_inj (by simpa using hi) hn).1 h1
  subst this
  rfl
theorem getS_mem {S : List Mrk} (hn : (S.map Mrk.key).Nodup) {x : Mrk} (hx : x ∈ S) : getS S x.key = some x.off := by
  unfold getS
  cases hf : S.find? fun y => decide (y.key = x.key) with
  | none => have := List.find?_eq_none.1 hf x hx; simp at this
  | some y =>
    have h1 := List.mem_of_find?_eq_some hf
    have h2 := List.find?_some hf
    have : y = x := key_inj hn h1 hx (by simpa using h2)
    subst this
    rfl
theorem getS_none {S : List Mrk} {k : MKey} : getS S k = none ↔ ∀ x ∈ S, x.key ≠ k := by
  unfold getS
  rw [Option.map_eq_none_iff, List.find?_eq_none]
  simp
theorem getS_some {S : List Mrk} {k : MKey} {v : Int} (h : getS S k = some v) : ∃ x ∈ S, x.key = k ∧ x.off = v := by
  unfold getS at h
  rw [Option.map_eq_some_iff] at h
  obtain ⟨x, h1, h2⟩ := h
  exact ⟨x, List.mem_of_find?_eq_some h1, by simpa using List.find?_some h1, h2⟩
theorem rep_get {lb : List (MKey × Value × Nat)} {S : List Mrk} (h : Rep lb S) (hn : (lb.map (·.1)).Nodup) (k : MKey) : getB lb k = (getS S k).map (Value.int .i64) := by
  have hnS := rep_nodup h hn
  cases hg : getS S k with
  | none =>
    rw [getS_none] at hg
    rw [Option.map_none, getB_none]
    intro x hx e
    have : x.1 ∈ S.map Mrk.key := (rep_keys h).mem_iff.1 (List.mem_map.2 ⟨x, hx, rfl⟩)
    obtain ⟨y, hy, hy2⟩ := List.mem_map.1 this
    exact hg y hy (hy2.trans e)
  | some v =>
    obtain ⟨y, hy, rfl, rfl⟩ := getS_some hg
    have : prS y ∈ lb.map prB := h.mem_iff.2 (List.mem_map.2 ⟨y, hy, rfl⟩)
    obtain ⟨x, hx, hx2⟩ := List.mem_map.1 this
    have e1 : x.1 = y.key := congrArg Prod.fst hx2
    have e2 : x.2.1 = Value.int .i64 y.off := congrArg Prod.snd hx2
    rw [← e1, getB_mem hn hx, e2]
    rfl
/-! ### put -/
theorem split3 {S : List Mrk} (hn : (S.map Mrk.key).Nodup) (m : Mrk) : ∃ E : List Mrk, S.Perm (S.filter (fun x => decide (bef x m)) ++ (E ++ S.filter (fun x => decide (bef m x)))) ∧ (∀ x ∈ E, x.key = m.key) ∧ E.length = if (getS S m.key).isSome then 1 else 0 := by
  refine ⟨S.filter (fun x => decide (x.key = m.key)), ?_, fun x hx => by simpa using (List.mem_filter.1 hx).2, ?_⟩
  · have h1 := List.filter_append_perm (fun x => decide (bef x m)) S
    have h2 := List.filter_append_perm (fun x => decide (x.key = m.key)) (S.filter (fun x => !decide (bef x m)))
    refine h1.symm.trans (List.Perm.append_left _ (h2.symm.trans ?_))
    rw [List.filter_filter, List.filter_filter]
    have e1 : S.filter (fun x => decide (x.key = m.key) && !decide (bef x m)) = S.filter (fun x => decide (x.key = m.key)) := by
      apply List.filter_congr
      intro x _
      by_cases h : x.key = m.key
      · have : ¬ bef x m := fun hb => bef_key hb h
        simp [h, this]
      · simp [h]
    have e2 : S.filter (fun x => !decide (x.key = m.key) && !decide (bef x m)) = S.filter (fun x => decide (bef m x)) := by
      apply List.filter_congr
      intro x _
      by_cases h : x.key = m.key
      · have : ¬ bef m x := fun hb => bef_key hb h.symm
        simp [h, this]
      · rcases bef_tri h with hb | hb
        · simp [h, hb, bef_asymm hb]
        · simp [h, hb, bef_asymm hb]
    rw [e1, e2]
  · cases hg : getS S m.key with
    | none =>
      rw [getS_none] at hg
      have : S.filter (fun x => decide (x.key = m.key)) = [] := by
        rw [List.filter_eq_nil_iff]
        intro x hx
        simpa using hg x hx
      rw [this]; rfl
    | some v =>
      obtain ⟨y, hy, hk, rfl⟩ := getS_some hg
      have hnd : (S.filter (fun x => decide (x.key = m.key))).Pairwise (fun a b => a.key ≠ b.key) := by
        have : S.Pairwise (fun a b => a.key ≠ b.key) := List.pairwise_map.1 hn
        exact this.sublist List.filter_sublist
      have hmem : y ∈ S.filter (fun x => decide (x.key = m.key)) := List.mem_filter.2 ⟨hy, by simpa using hk⟩
      have hall : ∀ x ∈ S.filter (fun x => decide (x.key = m.key)), x.key = m.key := fun x hx => by simpa using (List.mem_filter.1 hx).2
      match hE : S.filter (fun x => decide (x.key = m.key)) with
      | [] => rw [hE] at hmem; cases hmem
      | [_] => rw [hE]; rfl
      | a :: b :: l =>
        rw [hE] at hnd hall
        have h1 := (List.pairwise_cons.1 hnd).1 b (by simp)
        exact absurd ((hall a (by simp)).trans (hall b (by simp)).symm) h1
theorem rep_put {lb : List (MKey × Value × Nat)} {S : List Mrk} (h : Rep lb S) (hn : (lb.map (·.1)).Nodup) (c : Nat) (m : Mrk) : Rep (setB lb c m.key (.int .i64 m.off)) (putS S m) := by
  have hnS := rep_nodup h hn
  obtain ⟨E, hE, hk, hl⟩ := split3 hnS m
  have hg := rep_get h hn m.key
  unfold Rep setB putS
  cases hq : getS S m.key with
  | none =>
    rw [hq] at hg hl
    simp only [Option.map_none] at hg
    simp only [Option.isSome_none, Bool.false_eq_true, if_false] at hl
    have hE0 : E = [] := List.eq_nil_of_length_eq_zero hl
    subst hE0
    rw [hg]
    simp only [Option.isSome_none, Bool.false_eq_true, if_false, List.map_append, List.map_cons, List.map_nil]
    have h1 := h.trans (hE.map prS)
    simp only [List.nil_append, List.map_append] at h1
    refine ((h1.append_right _).trans ?_)
    rw [List.append_assoc]
    refine List.Perm.append_left _ ?_
    exact (List.perm_append_comm (l₁ := List.map prS (S.filter fun x => decide (bef m x))) (l₂ := [prB (m.key, Value.int .i64 m.off, c)]))
  | some v =>
    rw [hq] at hg hl
    simp only [Option.map_some] at hg
    simp only [Option.isSome_some, if_true] at hl
    obtain ⟨e0, rfl⟩ := List.length_eq_one_iff.1 hl
    rw [hg]
    simp only [Option.isSome_some, if_true]
    let g : MKey × Value → MKey × Value := fun p => if p.1 = m.key then (m.key, .int .i64 m.off) else p
    have e1 : (lb.map (fun x => if x.1 = m.key then (m.key, Value.int .i64 m.off, x.2.2) else x)).map prB = (lb.map prB).map g := by
      rw [List.map_map, List.map_map]
      apply List.map_congr_left
      intro x _
      simp only [Function.comp, prB, g]
      split <;> rfl
    rw [e1]
    refine (h.map g).trans ?_
    refine ((hE.map prS).map g).trans ?_
    simp only [List.map_append, List.map_cons, List.map_nil]
    have keep : ∀ l : List Mrk, (∀ x ∈ l, x.key ≠ m.key) → (l.map prS).map g = l.map prS := by
      intro l hl
      rw [List.map_map]
      apply List.map_congr_left
      intro x hx
      simp only [Function.comp, prS, g]
      rw [if_neg (hl x hx)]
    rw [keep _ (fun x hx => bef_key (by simpa using (List.mem_filter.1 hx).2)), keep _ (fun x hx e => bef_key (by simpa using (List.mem_filter.1 hx).2) e.symm)]
    have : g (prS e0) = prS m := by
      simp only [g, prS]
      rw [if_pos (hk e0 (by simp))]
    rw [this]
    exact List.Perm.refl _
theorem putS_sorted {S : List Mrk} (hs : S.Pairwise bef) (m : Mrk) : (putS S m).Pairwise bef := by
  unfold putS
  rw [List.pairwise_append]
  refine ⟨hs.sublist List.filter_sublist, ?_, ?_⟩
  · rw [List.pairwise_cons]
    exact ⟨fun x hx => by simpa using (List.mem_filter.1 hx).2, hs.sublist List.filter_sublist⟩
  · intro x hx y hy
    have h1 : bef x m := by simpa using (List.mem_filter.1 hx).2
    rcases List.mem_cons.1 hy with rfl | hy
    · exact h1
    · have h2 : bef m y := by simpa using (List.mem_filter.1 hy).2
      exact bef_trans h1 h2
theorem putS_mem {S : List Mrk} {m x : Mrk} : x ∈ putS S m ↔ x = m ∨ (x ∈ S ∧ (bef x m ∨ bef m x)) := by
  unfold putS
  simp only [List.mem_append, List.mem_cons, List.mem_filter, decide_eq_true_eq]
  constructor
  · rintro (⟨h1, h2⟩ | rfl | ⟨h1, h2⟩)
    · exact .inr ⟨h1, .inl h2⟩
    · exact .inl rfl
    · exact .inr ⟨h1, .inr h2⟩
  · rintro (rfl | ⟨h1, h2 | h2⟩)
    · exact .inr (.inl rfl)
    · exact .inl ⟨h1, h2⟩
    · exact .inr (.inr ⟨h1, h2⟩)
theorem putS_length (S : List Mrk) (m : Mrk) : (putS S m).length ≤ S.length + 1 := by
  unfold putS
  have h1 : (S.filter fun x => decide (bef x m)).length + (S.filter fun x => decide (bef m x)).length ≤ S.length := by
    induction S with
    | nil => simp
    | cons x S ih =>
      simp only [List.filter_cons]
      by_cases ha : bef x m
      · simp [ha, bef_asymm ha]; omega
      · by_cases hb : bef m x
        · simp [ha, hb]; omega
        · simp [ha, hb]; omega
  simp only [List.length_append, List.length_cons]
  omega
theorem sorted_nodup {S : List Mrk} (hs : S.Pairwise bef) : (S.map Mrk.key).Nodup := List.pairwise_map.2 (hs.imp fun h => bef_key h)
/-- two lists in order with the same marks are one -/
theorem sorted_eq {S S' : List Mrk} (hs : S.Pairwise bef) (hs' : S'.Pairwise bef) (hp : S.Perm S') : S = S' :=
  List.Perm.eq_of_pairwise (le := bef) (fun a b _ _ h1 h2 => absurd h2 (bef_asymm h1)) hs hs' hp
/-! ### the table -/
structure Tb (B : Nat) (w : World) (i m : Nat) (S : List Mrk) : Prop where
  box : Box B w i 60 [.map (some m)]
  map : ∃ lb c, MpB Try.prog 62 B w m lb c ∧ Rep lb S
  srt : S.Pairwise bef
  may : ∀ x ∈ S, mayM x
theorem Tb.ext {B i m : Nat} {w w' : World} {S : List Mrk} (h : Tb B w i m S) (k : Ext w w') : Tb B w' i m S :=
  let ⟨lb, c, h1, h2⟩ := h.map
  ⟨h.box.ext k, ⟨lb, c, h1.ext k, h2⟩, h.srt, h.may⟩
theorem Tb.upd {X : Nat → Prop} {B i m : Nat} {w w' : World} {S : List Mrk} (h : Tb B w i m S) (k : Upd X w w') (h1 : ¬ X i) (h2 : ¬ X m) : Tb B w' i m S :=
  let ⟨lb, c, h3, h4⟩ := h.map
  ⟨h.box.upd k h1, ⟨lb, c, h3.upd k h2, h4⟩, h.srt, h.may⟩
theorem Tb.old {B i m : Nat} {w : World} {S : List Mrk} (h : Tb B w i m S) : B ≤ m := let ⟨_, _, h3, _⟩ := h.map; h3.old
theorem Tb.keys {B i m : Nat} {w : World} {S : List Mrk} (h : Tb B w i m S) : (S.map Mrk.key).Nodup := sorted_nodup h.srt
/-- the map's block is no block of cells -/
theorem Tb.neb {B i m : Nat} {w : World} {S : List Mrk} (h : Tb B w i m S) {B' b : Nat} {T : TypeId} {cs : List Value} (hb : Box B' w b T cs) : b ≠ m := let ⟨_, _, h3, _⟩ := h.map; fun e => h3.neb hb e.symm
theorem Tb.nea {α : Type} [Lies α] {B i m : Nat} {w : World} {S : List Mrk} (h : Tb B w i m S) {B' c' : Nat} {T : TypeId} {a : Option Addr} {l : List α} (ho : Own B' w T a c' l) : ∀ j, inBlock a j → ¬ j = m := let ⟨_, _, h3, _⟩ := h.map; fun j hj e => h3.nea ho (e ▸ hj)
theorem Tb.mono {B B' i m : Nat} {w : World} {S : List Mrk} (h : Tb B w i m S) (k : B' ≤ B) : Tb B' w i m S :=
  let ⟨lb, c, h3, h4⟩ := h.map
  ⟨⟨Nat.le_trans k h.box.old, h.box.at_⟩, ⟨lb, c, h3.mono k, h4⟩, h.srt, h.may⟩
noncomputable def putE (S : List Mrk) (m : Mrk) : Int := open Classical in if ¬ mayM m then 1 else if m.off < (getS S m.key).getD 0 then 120 else 0
noncomputable def putR (S : List Mrk) (m : Mrk) : List Mrk := if putE S m = 0 then putS S m else S
noncomputable def loadE (l : List Mrk) : Int := open Classical in if ∀ (i : Nat) (h : i < l.length), mayM l[i] ∧ (0 < i → bef l[i - 1] l[i]) then 0 else 1
theorem loadE_ok {l : List Mrk} (h : loadE l = 0) : l.Pairwise bef ∧ ∀ x ∈ l, mayM x := by
  unfold loadE at h
  split at h
  · rename_i hk
    refine ⟨?_, fun x hx => ?_⟩
    · rw [List.pairwise_iff_getElem]
      intro i j hi hj hij
      induction j with
      | zero => omega
      | succ j ih =>
        have h1 := (hk (j + 1) hj).2 (by omega)
        simp only [Nat.add_sub_cancel] at h1
        rcases Nat.lt_or_ge i j with h2 | h2
        · exact bef_trans (ih (by omega) h2) h1
        · obtain rfl : i = j := by omega
          exact h1
    · obtain ⟨i, hi, rfl⟩ := List.getElem_of_mem hx
      exact (hk i hi).1
  · cases h
end Go.Proofs.Ytmjamhgihbapjaa
