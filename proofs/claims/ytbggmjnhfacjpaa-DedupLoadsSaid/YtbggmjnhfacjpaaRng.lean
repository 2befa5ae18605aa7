/-
  Maps with their stamps: looked up, deleted from, ranged over.
-/
import Derived.Test.YtbggmjnhfacjpaaSlc
set_option linter.unusedVariables false
namespace Go.Eng
open Go Go.RowKit

theorem nodup_at {K : Type} {lb : List (K × Value × Nat)} (h : (lb.map (·.1)).Nodup) {i j : Nat} (hi : i < lb.length) (hj : j < lb.length) (e : lb[i].1 = lb[j].1) : i = j := by
  have h1 : (lb.map (·.1))[i]? = (lb.map (·.1))[j]? := by simp [hi, hj, e]
  exact (List.getElem?_inj (by simpa using hi) h).1 h1
/-- an entry, by its key, its value, its stamp -/
def entM {P : Program} {t : TypeId} {K : Type} [DecidableEq K] [KeyT P t K] (x : K × Value × Nat) : MapEntry := { key := KeyT.enc P t x.1, val := x.2.1, born := x.2.2 }
/-- Map number m, not older than B, holds lb: keys, values, stamps; c is the next stamp. -/
structure MpB (P : Program) (t : TypeId) {K : Type} [DecidableEq K] [KeyT P t K] (B : Nat) (w : World) (m : Nat) (lb : List (K × Value × Nat)) (c : Nat) : Prop where
  old : B ≤ m
  nod : (lb.map (·.1)).Nodup
  at_ : ∃ es : Array MapEntry, w.heap[m]? = some (.map es c) ∧ es.toList = lb.map (entM (P := P) (t := t))
  lt : ∀ x ∈ lb, x.2.2 < c
  nob : (lb.map (·.2.2)).Nodup
section
variable {P : Program} {t : TypeId} {K : Type} [DecidableEq K] [KeyT P t K] {B m c : Nat} {w w' : World} {lb : List (K × Value × Nat)}
theorem MpB.ext (h : MpB P t B w m lb c) (k : Ext w w') : MpB P t B w' m lb c := by
  obtain ⟨es, h1, h2⟩ := h.at_
  exact ⟨h.old, h.nod, ⟨es, k.heap h1, h2⟩, h.lt, h.nob⟩
theorem MpB.upd {X : Nat → Prop} (h : MpB P t B w m lb c) (k : Upd X w w') (hx : ¬ X m) : MpB P t B w' m lb c := by
  obtain ⟨es, h1, h2⟩ := h.at_
  exact ⟨h.old, h.nod, ⟨es, k.heap h1 hx, h2⟩, h.lt, h.nob⟩
theorem MpB.blk (h : MpB P t B w m lb c) : m < w.heap.size := by
  obtain ⟨es, h1, _⟩ := h.at_
  exact (Array.getElem?_eq_some_iff.1 h1).1
theorem MpB.neb (h : MpB P t B w m lb c) {B' b : Nat} {T : TypeId} {cs : List Value} (hb : Box B' w b T cs) : m ≠ b := by
  rintro rfl
  obtain ⟨es, h1, _⟩ := h.at_
  rw [hb.at_] at h1
  cases h1
theorem MpB.nea {α : Type} [Lies α] (h : MpB P t B w m lb c) {B' c' : Nat} {T : TypeId} {a : Option Addr} {l : List α} (ho : Own B' w T a c' l) : ¬ inBlock a m := by
  rintro ⟨p, rfl, rfl⟩
  obtain ⟨es, h1, _⟩ := h.at_
  rcases ho.cases with ⟨h2, _⟩ | ⟨g, cur, h2, _, hg, _⟩
  · cases h2
  · injection h2 with h2
    subst h2
    rw [hg] at h1
    cases h1
theorem MpB.mono {B' : Nat} (h : MpB P t B w m lb c) (k : B' ≤ B) : MpB P t B' w m lb c := ⟨by have := h.old; omega, h.nod, h.at_, h.lt, h.nob⟩

/-- the place of a key -/
theorem findK_mp (k : K) : ∀ (lb : List (K × Value × Nat)) (i : Nat), findK k (lb.map (·.1)) (lb.map (entM (P := P) (t := t))) i = (lb.findIdx? fun x => decide (x.1 = k)).map fun j => (i + j, ((lb[j]?).map (·.2.1)).getD undef)
  | [], i => rfl
  | x :: lb, i => by
    simp only [List.map_cons, findK, List.findIdx?_cons]
    by_cases h : x.1 = k
    · subst h; simp [entM]
    · have h' : ¬ k = x.1 := fun e => h e.symm
      rw [if_neg h', findK_mp k lb (i + 1)]
      simp only [h, decide_false, Bool.false_eq_true, if_false, Option.map_map]
      congr 1
      funext j
      simp only [Function.comp, List.getElem?_cons_succ]
      congr 1
      omega
/-- what a map has at a key -/
def getB (lb : List (K × Value × Nat)) (k : K) : Option Value := (lb.find? fun x => decide (x.1 = k)).map (·.2.1)
theorem getB_idx (k : K) (lb : List (K × Value × Nat)) : ((lb.findIdx? fun x => decide (x.1 = k)).map fun j => ((lb[j]?).map (·.2.1)).getD undef) = getB lb k := by
  unfold getB
  cases h : lb.findIdx? fun x => decide (x.1 = k) with
  | none =>
    rw [List.findIdx?_eq_none_iff] at h
    have : lb.find? (fun x => decide (x.1 = k)) = none := by rw [List.find?_eq_none]; intro x hx; simpa using h x hx
    rw [this]; rfl
  | some j =>
    rw [List.findIdx?_eq_some_iff_getElem] at h
    obtain ⟨hj, h1, h2⟩ := h
    have : lb.find? (fun x => decide (x.1 = k)) = some lb[j] := by
      rw [List.find?_eq_some_iff_getElem]
      exact ⟨h1, j, hj, rfl, fun i hi => by simpa using h2 i hi⟩
    rw [this]
    simp [hj]
theorem run_findB (h : MpB P t B w m lb c) (k : K) {es : Array MapEntry} (he : es.toList = lb.map (entM (P := P) (t := t))) : (Instr.findKey t (KeyT.enc P t k) es.toList).run P w = .ok ((lb.findIdx? fun x => decide (x.1 = k)).map fun j => (j, ((lb[j]?).map (·.2.1)).getD undef)) w := by
  rw [KeyT.find (P := P) (t := t) k (lb.map (·.1)) es.toList (by rw [he]; simp [entM, List.map_map, Function.comp]) w, he, findK_mp]
  simp
/-- m[k], m[k] with ok -/
theorem run_lookupB {mt et : TypeId} {z : Value} {ok : Bool} {sz by_ : Nat} (hu : P.underlying mt = some (.map t et)) (hz : ∃ i, P.info? et = some i ∧ i.size = sz ∧ i.bytes = by_ ∧ i.zero = some z) (h : MpB P t B w m lb c) (k : K) :
    (Instr.lookup mt (.map (some m)) (KeyT.enc P t k) ok).run P w = .ok (if ok then .tuple #[(getB lb k).getD z, .bool (getB lb k).isSome] else (getB lb k).getD z) w := by
  obtain ⟨es, h1, h2⟩ := h.at_
  have hf := run_findB h k h2
  have hck := KeyT.check (P := P) (t := t) es.isEmpty k w
  obtain ⟨i, hi, _, _, h4⟩ := hz
  have hg := getB_idx k lb
  simp only [Instr.lookup, Sem.run_bind, run_und hu, run_getObj h1, hck, hf, Result.andThen_ok, Sem.run_pure]
  cases hq : lb.findIdx? fun x => decide (x.1 = k) with
  | none =>
    rw [hq] at hg
    simp only [Option.map_none] at hg ⊢
    rw [← hg]
    simp [zeroValue, typeInfo, hi, h4]
  | some j =>
    rw [hq] at hg
    simp only [Option.map_some] at hg ⊢
    rw [← hg]
    simp
/-- a key is put -/
def setB (lb : List (K × Value × Nat)) (c : Nat) (k : K) (v : Value) : List (K × Value × Nat) := if (getB lb k).isSome then lb.map (fun x => if x.1 = k then (k, v, x.2.2) else x) else lb ++ [(k, v, c)]
def nextB (lb : List (K × Value × Nat)) (c : Nat) (k : K) : Nat := if (getB lb k).isSome then c else c + 1
/-- a key goes -/
def delB (lb : List (K × Value × Nat)) (k : K) : List (K × Value × Nat) := lb.filter fun x => !decide (x.1 = k)
theorem getB_none {lb : List (K × Value × Nat)} {k : K} : getB lb k = none ↔ ∀ x ∈ lb, x.1 ≠ k := by
  unfold getB
  rw [Option.map_eq_none_iff, List.find?_eq_none]
  simp
theorem getB_mem {lb : List (K × Value × Nat)} (h : (lb.map (·.1)).Nodup) {x : K × Value × Nat} (hx : x ∈ lb) : getB lb x.1 = some x.2.1 := by
  cases hf : lb.find? fun y => decide (y.1 = x.1) with
  | none =>
    have := List.find?_eq_none.1 hf x hx
    simp at this
  | some y =>
    have h1 := List.mem_of_find?_eq_some hf
    have h2 := List.find?_some hf
    obtain ⟨i, hi, rfl⟩ := List.getElem_of_mem hx
    obtain ⟨j, hj, rfl⟩ := List.getElem_of_mem h1
    have := nodup_at h hj hi (by simpa using h2)
    subst this
    unfold getB
    rw [hf]; rfl
theorem setB_keys (lb : List (K × Value × Nat)) (c : Nat) (k : K) (v : Value) : (setB lb c k v).map (·.1) = if (getB lb k).isSome then lb.map (·.1) else lb.map (·.1) ++ [k] := by
  unfold setB
  split
  · rw [List.map_map]
    apply List.map_congr_left
    intro x _
    by_cases hx : x.1 = k <;> simp [hx]
  · simp
/-- m[k] = v -/
theorem run_updateB {mt et : TypeId} (hu : P.underlying mt = some (.map t et)) (h : MpB P t B w m lb c) (k : K) (v : Value) :
    ∃ w', (Instr.mapUpdate mt (.map (some m)) (KeyT.enc P t k) v).run P w = .ok () w' ∧ Upd (· = m) w w' ∧ MpB P t B w' m (setB lb c k v) (nextB lb c k) := by
  obtain ⟨es, h1, h2⟩ := h.at_
  have hf := run_findB h k h2
  have hck := KeyT.check (P := P) (t := t) false k w
  have hg := getB_idx k lb
  cases hq : lb.findIdx? fun x => decide (x.1 = k) with
  | none =>
    rw [hq] at hf hg
    simp only [Option.map_none] at hf hg
    have hno : (getB lb k).isSome = false := by rw [← hg]; rfl
    refine ⟨World.putObj w m (.map (es.push { key := KeyT.enc P t k, val := v, born := c }) (c + 1)), ?_, Upd.putObj _ _ _, h.old, ?_, ⟨es.push { key := KeyT.enc P t k, val := v, born := c }, by rw [putObj_at h1]; simp [nextB, hno], ?_⟩, ?_, ?_⟩
    · simp only [Instr.mapUpdate, Sem.run_bind, run_und hu, run_getObj h1, hck, hf, Result.andThen_ok, run_setObj h1]; rfl
    · rw [setB_keys, hno]
      simp only [Bool.false_eq_true, if_false]
      rw [List.nodup_append]
      refine ⟨h.nod, by simp, ?_⟩
      simp only [List.mem_singleton]
      intro a ha x hx e
      obtain ⟨y, hy, rfl⟩ := List.mem_map.1 ha
      subst hx
      exact getB_none.1 hg.symm y hy e
    · simp [setB, hno, h2, entM]
    · intro x hx
      simp only [setB, hno, Bool.false_eq_true, if_false, List.mem_append, List.mem_singleton] at hx
      simp only [nextB, hno, Bool.false_eq_true, if_false]
      rcases hx with hx | rfl
      · have := h.lt x hx; omega
      · simp
    · simp only [setB, hno, Bool.false_eq_true, if_false, List.map_append, List.map_cons, List.map_nil]
      rw [List.nodup_append]
      refine ⟨h.nob, by simp, ?_⟩
      simp only [List.mem_singleton]
      intro a ha x hx e
      obtain ⟨y, hy, rfl⟩ := List.mem_map.1 ha
      have := h.lt y hy
      omega
  | some i =>
    rw [hq] at hf hg
    simp only [Option.map_some] at hf hg
    have hyes : (getB lb k).isSome = true := by rw [← hg]; rfl
    rw [List.findIdx?_eq_some_iff_getElem] at hq
    obtain ⟨hi, hk, _⟩ := hq
    have hk : lb[i].1 = k := by simpa using hk
    have hsz : es.toList.length = lb.length := by rw [h2]; simp
    have he : es[i]? = some (entM (P := P) (t := t) lb[i]) := by rw [← Array.getElem?_toList, h2]; simp [hi]
    have hstay : (Instr.keyThatStays (((es[i]?).map (·.key)).getD (KeyT.enc P t k)) (KeyT.enc P t k)).run P w = .ok (KeyT.enc P t k) w := by
      rw [he]
      simp only [Option.map_some, Option.getD_some, entM, hk, Instr.keyThatStays, KeyT.bits, if_true]
      rfl
    have hset : ∀ (j : Nat) (hj : j < lb.length), (if lb[j].1 = k then (k, v, lb[j].2.2) else lb[j]) = if i = j then (k, v, lb[j].2.2) else lb[j] := by
      intro j hj
      by_cases e : i = j
      · subst e; rw [if_pos hk, if_pos rfl]
      · rw [if_neg e, if_neg (fun h' => e (nodup_at h.nod hi hj (by rw [hk, h'])))]
    refine ⟨World.putObj w m (.map (es.modify i fun e => { e with key := KeyT.enc P t k, val := v }) c), ?_, Upd.putObj _ _ _, h.old, ?_, ⟨es.modify i fun e => { e with key := KeyT.enc P t k, val := v }, by rw [putObj_at h1]; simp [nextB, hyes], ?_⟩, ?_, ?_⟩
    · simp only [Instr.mapUpdate, Sem.run_bind, run_und hu, run_getObj h1, hck, hf, Result.andThen_ok, hstay, run_setObj h1]; rfl
    · rw [setB_keys, hyes]
      simpa using h.nod
    · apply List.ext_getElem
      · simp [setB, hyes, hsz]
      · intro j h3 h4
        have hj : j < lb.length := by simp [hsz] at h3; exact h3
        simp only [Array.toList_modify, List.getElem_modify, setB, hyes, if_true, List.map_map, List.getElem_map, Function.comp, hset j hj]
        have h5 : es.toList[j]'(by rw [hsz]; exact hj) = entM (P := P) (t := t) lb[j] := by simp [h2]
        rw [h5]
        by_cases e : i = j
        · subst e; simp [entM]
        · simp [e]
    · intro x hx
      simp only [setB, hyes, if_true, List.mem_map] at hx
      simp only [nextB, hyes, if_true]
      obtain ⟨y, hy, rfl⟩ := hx
      have := h.lt y hy
      split <;> exact this
    · have : (setB lb c k v).map (·.2.2) = lb.map (·.2.2) := by
        simp only [setB, hyes, if_true, List.map_map]
        apply List.map_congr_left
        intro x _
        by_cases hx : x.1 = k <;> simp [hx]
      rw [this]; exact h.nob
theorem nodup_filter {α β : Type} (f : α → β) (p : α → Bool) {l : List α} (h : (l.map f).Nodup) : ((l.filter p).map f).Nodup := List.Sublist.nodup (List.Sublist.map f (List.filter_sublist (l := l))) h
/-- delete(m, k) -/
theorem run_deleteB {mt et : TypeId} {ty : TypeId} {kt : TypeId} (hu : P.underlying mt = some (.map t et)) (h : MpB P t B w m lb c) (k : K) :
    ∃ w', (Builtin.delete_ #[mt, kt] ty #[.map (some m), KeyT.enc P t k]).run P w = .ok (.tuple #[]) w' ∧ Upd (· = m) w w' ∧ MpB P t B w' m (delB lb k) c := by
  obtain ⟨es, h1, h2⟩ := h.at_
  have hf := run_findB h k h2
  have hck := KeyT.check (P := P) (t := t) es.isEmpty k w
  have hlt : ∀ x ∈ delB lb k, x.2.2 < c := fun x hx => h.lt x (List.mem_filter.1 hx).1
  cases hq : lb.findIdx? fun x => decide (x.1 = k) with
  | none =>
    rw [hq] at hf
    simp only [Option.map_none] at hf
    rw [List.findIdx?_eq_none_iff] at hq
    have hd : delB lb k = lb := by
      unfold delB
      rw [List.filter_eq_self]
      intro x hx
      simpa using hq x hx
    refine ⟨World.putObj w m (.map es c), ?_, Upd.putObj _ _ _, h.old, nodup_filter _ _ h.nod, ⟨_, putObj_at h1, by rw [hd]; exact h2⟩, hlt, nodup_filter _ _ h.nob⟩
    simp [Builtin.delete_, run_und hu, run_getObj h1, hck, hf, run_setObj h1]
    rfl
  | some i =>
    rw [hq] at hf
    simp only [Option.map_some] at hf
    rw [List.findIdx?_eq_some_iff_getElem] at hq
    obtain ⟨hi, hk, _⟩ := hq
    have hk : lb[i].1 = k := by simpa using hk
    have hd : delB lb k = lb.eraseIdx i := by
      unfold delB
      have hsplit : lb = lb.take i ++ lb[i] :: lb.drop (i + 1) := by rw [← List.drop_eq_getElem_cons hi, List.take_append_drop]
      have e1 : (lb.take i).filter (fun x => !decide (x.1 = k)) = lb.take i := by
        rw [List.filter_eq_self]
        intro x hx
        obtain ⟨j, hj, rfl⟩ := List.getElem_of_mem hx
        rw [List.length_take] at hj
        rw [List.getElem_take]
        have : ¬ lb[j].1 = k := fun e => by have := nodup_at h.nod (show j < lb.length by omega) hi (by rw [e, hk]); omega
        simpa using this
      have e2 : (lb.drop (i + 1)).filter (fun x => !decide (x.1 = k)) = lb.drop (i + 1) := by
        rw [List.filter_eq_self]
        intro x hx
        obtain ⟨j, hj, rfl⟩ := List.getElem_of_mem hx
        rw [List.length_drop] at hj
        rw [List.getElem_drop]
        have : ¬ lb[i + 1 + j].1 = k := fun e => by have := nodup_at h.nod (show i + 1 + j < lb.length by omega) hi (by rw [e, hk]); omega
        simpa using this
      rw [List.eraseIdx_eq_take_drop_succ]
      conv => lhs; rw [hsplit]
      rw [List.filter_append, List.filter_cons, e1, e2]
      simp [hk]
    refine ⟨World.putObj w m (.map (es.eraseIdxIfInBounds i) c), ?_, Upd.putObj _ _ _, h.old, nodup_filter _ _ h.nod, ⟨_, putObj_at h1, ?_⟩, hlt, nodup_filter _ _ h.nob⟩
    · simp [Builtin.delete_, run_und hu, run_getObj h1, hck, hf, run_setObj h1]
      rfl
    · have hsz : i < es.size := by have : es.toList.length = lb.length := by rw [h2]; simp
                                   rw [← Array.length_toList, this]; exact hi
      rw [hd]
      simp only [Array.eraseIdxIfInBounds, hsz, dite_true]
      rw [Array.toList_eraseIdx, h2, List.eraseIdx_eq_take_drop_succ, List.eraseIdx_eq_take_drop_succ, List.map_append, List.map_take, List.map_drop]
theorem run_lenB {mt et ty : TypeId} (hu : P.underlying mt = some (.map t et)) (h : MpB P t B w m lb c) : (Builtin.len_ #[mt] ty #[.map (some m)]).run P w = .ok (.int .i64 (lb.length : Int)) w := by
  obtain ⟨es, h1, h2⟩ := h.at_
  have hsz : es.size = lb.length := by rw [← Array.length_toList, h2]; simp
  simp [Builtin.len_, run_und hu, run_getObj h1, hsz, goInt]
/-- what a step over a map yields -/
def stepK (P : Program) (t : TypeId) {K : Type} [DecidableEq K] [KeyT P t K] (o : Option (K × Value × Nat)) : Value := match o with
  | some x => .tuple #[.bool true, KeyT.enc P t x.1, x.2.1]
  | none => .tuple #[.bool false]
/-- the iterator it stands over m, and has seen these stamps -/
def ItM (w : World) (it m c : Nat) (seen : Array Nat) : Prop := w.heap[it]? = some (.mapIter (some m) c seen c)
theorem ItM.ext {it : Nat} {seen : Array Nat} (h : ItM w it m c seen) (k : Ext w w') : ItM w' it m c seen := k.heap h
theorem ItM.upd {X : Nat → Prop} {it : Nat} {seen : Array Nat} (h : ItM w it m c seen) (k : Upd X w w') (hx : ¬ X it) : ItM w' it m c seen := k.heap h hx
theorem ItM.ne {it : Nat} {seen : Array Nat} (h : ItM w it m c seen) {lb' : List (K × Value × Nat)} {m' c' B' : Nat} (hm : MpB P t B' w m' lb' c') : it ≠ m' := by
  rintro rfl
  obtain ⟨es, h1, _⟩ := hm.at_
  have h2 : w.heap[it]? = some (.mapIter (some m) c seen c) := h
  rw [h1] at h2
  cases h2
theorem ItM.neb {it : Nat} {seen : Array Nat} (h : ItM w it m c seen) {B' b : Nat} {T : TypeId} {cs : List Value} (hb : Box B' w b T cs) : it ≠ b := by
  rintro rfl
  have h2 : w.heap[it]? = some (.mapIter (some m) c seen c) := h
  rw [hb.at_] at h2
  cases h2
theorem ItM.nea {α : Type} [Lies α] {it : Nat} {seen : Array Nat} (h : ItM w it m c seen) {B' c' : Nat} {T : TypeId} {a : Option Addr} {l : List α} (ho : Own B' w T a c' l) : ¬ inBlock a it := by
  rintro ⟨p, rfl, rfl⟩
  have h1 : w.heap[p.block]? = some (.mapIter (some m) c seen c) := h
  rcases ho.cases with ⟨h2, _⟩ | ⟨g, cur, h2, _, hg, _⟩
  · cases h2
  · injection h2 with h2
    subst h2
    rw [hg] at h1
    cases h1
theorem run_getIt2 {it : Nat} {seen : Array Nat} (h : ItM w it m c seen) : (getObj it).run P w = .ok (.mapIter (some m) c seen c) w := by
  have h2 : w.heap[it]? = some (.mapIter (some m) c seen c) := h
  simp [getObj, Sem.run, h2]
theorem run_setIt2 {it : Nat} {seen seen' : Array Nat} (h : ItM w it m c seen) : (setObj it (.mapIter (some m) c seen' c)).run P w = .ok () (World.putObj w it (.mapIter (some m) c seen' c)) := by
  have h2 : w.heap[it]? = some (.mapIter (some m) c seen c) := h
  simp [setObj, Sem.run, h2]; rfl
theorem Upd.drew (X : Nat → Prop) (w : World) : Upd X w { w with drawn := w.drawn + 1 } := (Ext.drew w).toUpd
theorem run_nextM {it : Nat} {seen : Array Nat} {ty : TypeId} (hI : ItM w it m c seen) (hm : MpB P t B w m lb c) :
    ∃ (o : Option (K × Value × Nat)) (w' : World), (Instr.next (.pointer (some ⟨it, 0, none⟩)) false ty).run P w = .ok (stepK P t o) w' ∧ Upd (· = it) w w' ∧
      match o with
      | none => (∀ x ∈ lb, seen.contains x.2.2 = true) ∧ ItM w' it m c seen
      | some x => x ∈ lb ∧ seen.contains x.2.2 = false ∧ ItM w' it m c (seen.push x.2.2) := by
  obtain ⟨es, h1, h2⟩ := hm.at_
  have hall : (!seen.isEmpty && !es.isEmpty && es.all (fun e => decide (e.born ≥ c))) = false := by
    cases he : es.isEmpty with
    | true => simp
    | false =>
      have hne : es.toList ≠ [] := by intro h; rw [Array.toList_eq_nil_iff] at h; subst h; simp at he
      obtain ⟨e0, es', hes⟩ := List.exists_cons_of_ne_nil hne
      have : es.all (fun e => decide (e.born ≥ c)) = false := by
        rw [← Array.all_toList, hes]
        have hmem : e0 ∈ lb.map (entM (P := P) (t := t)) := by rw [← h2, hes]; simp
        obtain ⟨x, hx, rfl⟩ := List.mem_map.1 hmem
        have := hm.lt x hx
        simp [entM]
        omega
      rw [this]; simp
  let left := lb.filter fun x => !seen.contains x.2.2
  have hleft : (es.filter fun (e : MapEntry) => !seen.contains e.born).toList = left.map (entM (P := P) (t := t)) := by
    rw [Array.toList_filter, h2, List.filter_map]
    rfl
  have hlt : ∀ x ∈ left, x.2.2 < c := fun x hx => hm.lt x (List.mem_filter.1 hx).1
  have hold : ((es.filter fun (e : MapEntry) => !seen.contains e.born).filter fun e => decide (e.born < c)) = es.filter fun (e : MapEntry) => !seen.contains e.born := by
    apply Array.toList_inj.1
    rw [Array.toList_filter, hleft, List.filter_eq_self]
    intro e he
    obtain ⟨x, hx, rfl⟩ := List.mem_map.1 he
    exact decide_eq_true (hlt x hx)
  have hnew : ((es.filter fun (e : MapEntry) => !seen.contains e.born).filter fun e => decide (e.born ≥ c)) = #[] := by
    apply Array.toList_inj.1
    rw [Array.toList_filter, hleft, List.filter_eq_nil_iff.2]
    intro e he
    obtain ⟨x, hx, rfl⟩ := List.mem_map.1 he
    have := hlt x hx
    simp [entM]
    omega
  have hrun : ∀ (cand : Array (Option MapEntry)), ((if (es.filter fun (e : MapEntry) => !seen.contains e.born).isEmpty then #[none] else #[]) ++ ((es.filter fun (e : MapEntry) => !seen.contains e.born) ++ #[]).map some) = cand → ∀ (w1 : World) (i : Nat), (choose (.mapNext cand.size)).run P w = .ok i w1 → ∀ q, cand[i]? = some q → ItM w1 it m c seen → (Instr.next (.pointer (some ⟨it, 0, none⟩)) false ty).run P w = match q with
        | some e => Result.ok (Value.tuple #[.bool true, e.key, e.val]) (World.putObj w1 it (.mapIter (some m) c (seen.push e.born) c))
        | none => Result.ok (Value.tuple #[.bool false]) w1 := by
    intro cand hcand w1 i hch q hq hI1
    simp only [Instr.next, Sem.run_bind, run_getIt2 hI, Result.andThen_ok, run_getObj h1, hall, Bool.false_eq_true, if_false, hold, hnew]
    rw [hcand]
    simp only [hch, Result.andThen_ok, hq]
    cases q with
    | none => rfl
    | some e =>
      simp only [Sem.run_bind, run_setIt2 hI1, Result.andThen_ok]
      rfl
  by_cases hemp : left = []
  · have hfe : (es.filter fun (e : MapEntry) => !seen.contains e.born) = #[] := Array.toList_inj.1 (by rw [hleft, hemp]; rfl)
    refine ⟨none, w, ?_, Upd.refl _ _, ?_, hI⟩
    · exact hrun #[none] (by rw [hfe]; simp) w 0 (by simp [choose, Sem.run, Question.forced]) none rfl hI
    · intro x hx
      have := List.filter_eq_nil_iff.1 hemp x hx
      simpa using this
  · have hpos : 0 < left.length := List.length_pos_iff.2 hemp
    have hsz : (es.filter fun (e : MapEntry) => !seen.contains e.born).size = left.length := by rw [← Array.length_toList, hleft, List.length_map]
    have hne : (es.filter fun (e : MapEntry) => !seen.contains e.born).isEmpty = false := by
      rw [Bool.eq_false_iff]
      intro h
      rw [Array.isEmpty_iff] at h
      rw [h] at hsz
      simp at hsz
      omega
    have hcs : ((if (es.filter fun (e : MapEntry) => !seen.contains e.born).isEmpty then (#[none] : Array (Option MapEntry)) else #[]) ++ ((es.filter fun (e : MapEntry) => !seen.contains e.born) ++ #[]).map some) = (es.filter fun (e : MapEntry) => !seen.contains e.born).map some := by
      rw [hne]; simp
    have hch : ∃ w1 i, (choose (.mapNext (es.filter fun (e : MapEntry) => !seen.contains e.born).size)).run P w = .ok i w1 ∧ Ext w w1 ∧ i < left.length := by
      rw [hsz]
      by_cases h1' : left.length ≤ 1
      · exact ⟨w, 0, by simp [choose, Sem.run, Question.forced, h1'], Ext.refl w, hpos⟩
      · refine ⟨{ w with drawn := w.drawn + 1 }, w.tape w.drawn (.mapNext left.length) % left.length, ?_, Ext.drew w, Nat.mod_lt _ hpos⟩
        simp [choose, Sem.run, Question.forced, Question.cut, h1']
    obtain ⟨w1, i, hc1, hx1, hi⟩ := hch
    have hmem : left[i] ∈ lb ∧ seen.contains left[i].2.2 = false := by
      have := List.mem_filter.1 (List.getElem_mem (l := left) hi)
      exact ⟨this.1, by simpa using this.2⟩
    have hat : ((es.filter fun (e : MapEntry) => !seen.contains e.born).map some)[i]? = some (some (entM (P := P) (t := t) left[i])) := by
      rw [Array.getElem?_map, ← Array.getElem?_toList, hleft, List.getElem?_map, List.getElem?_eq_getElem hi]
      rfl
    refine ⟨some left[i], World.putObj w1 it (.mapIter (some m) c (seen.push left[i].2.2) c), ?_, (hx1.toUpd).trans (Upd.putObj _ _ _), hmem.1, hmem.2, ?_⟩
    · exact hrun _ hcs w1 i (by rw [Array.size_map]; exact hc1) _ hat (hI.ext hx1)
    · exact putObj_at (hI.ext hx1)
end
section
variable {P : Program} {n : Nat} {ops : Array Oper} {l : List Oper} {Kk : Env → World → Prop} {el : List (Nat × Value)} {b e : Env} {w : World} {dt : Nat} {ty : TypeId} {pos : String} {after : Array Edge} {x y z : Operand} {t mt et : TypeId} {K : Type} [DecidableEq K] [KeyT P t K] {B m c : Nat} {lb : List (K × Value × Nat)}
theorem lkM {sz by_ : Nat} {zv : Value} [hu : Und P mt (.map t et)] [hi : Inf P et sz by_ zv] {k : K} (hx : ev e x = .map (some m)) (hm : MpB P t B w m lb c) (hy : ev e y = KeyT.enc P t k) : Does P e w (.lookup mt x y false) ((getB lb k).getD zv) := by
  intro w' hw' d ty pos after g
  have hr := run_lookupB (ok := false) hu.h hi.h (hm.ext hw') k
  simp only [execOp, hx, hy]
  simp [hr]
theorem lkO {sz by_ : Nat} {zv : Value} [hu : Und P mt (.map t et)] [hi : Inf P et sz by_ zv] {k : K} (hx : ev e x = .map (some m)) (hm : MpB P t B w m lb c) (hy : ev e y = KeyT.enc P t k) : Does P e w (.lookup mt x y true) (.tuple #[(getB lb k).getD zv, .bool (getB lb k).isSome]) := by
  intro w' hw' d ty pos after g
  have hr := run_lookupB (ok := true) hu.h hi.h (hm.ext hw') k
  simp only [execOp, hx, hy]
  simp [hr]
theorem lenMB [hu : Und P mt (.map t et)] (hx : ev e x = .map (some m)) (hm : MpB P t B w m lb c) : Does P e w (.call { callee := .builtin .len, args := #[x], argTypes := #[mt] }) (.int .i64 (lb.length : Int)) := by
  intro w' hw' d ty pos after g
  have hr := run_lenB (ty := ty) hu.h (hm.ext hw')
  simp [execOp, resolve, invoke, builtin, hx, hr]
theorem RL.updM [hu : Und P mt (.map t et)] {k : K} {v : Value} (hx : ev (look el b) x = .map (some m)) (hm : MpB P t B w m lb c) (hy : ev (look el b) y = KeyT.enc P t k) (hz : ev (look el b) z = v)
    (kk : ∀ w', Upd (· = m) w w' → MpB P t B w' m (setB lb c k v) (nextB lb c k) → RL P n ops l Kk (look el b) w') :
    RL P n ops (⟨none, .mapUpdate mt x y z, ty, pos, after, none⟩ :: l) Kk (look el b) w := by
  obtain ⟨w', hr, h1, h2⟩ := run_updateB hu.h hm k v
  refine RL.skip' (w' := w') (fun _ _ => wanted_none rfl _) rfl ?_ (kk w' h1 h2)
  simp only [execOp, hx, hy, hz]
  simp [hr]
theorem RL.delM {kt : TypeId} [hu : Und P mt (.map t et)] {k : K} (hx : ev (look el b) x = .map (some m)) (hm : MpB P t B w m lb c) (hy : ev (look el b) y = KeyT.enc P t k) (hd : Nat.blt dt n = true)
    (kk : ∀ w', Upd (· = m) w w' → MpB P t B w' m (delB lb k) c → RL P n ops l Kk (look ((dt, .tuple #[]) :: el) b) w') :
    RL P n ops (⟨some dt, .call { callee := .builtin .delete, args := #[x, y], argTypes := #[mt, kt] }, ty, pos, after, none⟩ :: l) Kk (look el b) w := by
  obtain ⟨w', hr, h1, h2⟩ := run_deleteB (ty := ty) (kt := kt) hu.h hm k
  refine RL.val' (w' := w') (v := .tuple #[]) (fun _ _ => wanted_none rfl _) hd ?_ (kk w' h1 h2)
  simp [execOp, resolve, invoke, builtin, hx, hy, hr]
theorem RL.rangeM [hu : Und P mt (.map t et)] (hx : ev (look el b) x = .map (some m)) (hm : MpB P t B w m lb c) (hd : Nat.blt dt n = true)
    (kk : ∀ w' i, i = w.heap.size → Ext w w' → ItM w' i m c #[] → RL P n ops l Kk (look ((dt, .pointer (some ⟨i, 0, none⟩)) :: el) b) w') :
    RL P n ops (⟨some dt, .range mt x, ty, pos, after, none⟩ :: l) Kk (look el b) w := by
  obtain ⟨es, h1, h2⟩ := hm.at_
  refine RL.val' (w' := w.alloc (.mapIter (some m) c #[] c)) (v := .pointer (some ⟨w.heap.size, 0, none⟩)) (fun _ _ => wanted_none rfl _) hd ?_ (kk _ _ rfl (Ext.alloc _ _) (heap_alloc_new w _))
  simp [execOp, hx, Instr.range, run_und hu.h, run_getObj h1, newObj, Sem.run]
theorem RL.nextM {it : Nat} {seen : Array Nat} (hx : ev (look el b) x = .pointer (some ⟨it, 0, none⟩)) (hI : ItM w it m c seen) (hm : MpB P t B w m lb c) (hd : Nat.blt dt n = true)
    (kk : ∀ w' (o : Option (K × Value × Nat)), Upd (· = it) w w' → (match o with
      | none => (∀ x ∈ lb, seen.contains x.2.2 = true) ∧ ItM w' it m c seen
      | some x => x ∈ lb ∧ seen.contains x.2.2 = false ∧ ItM w' it m c (seen.push x.2.2)) → RL P n ops l Kk (look ((dt, stepK P t o) :: el) b) w') :
    RL P n ops (⟨some dt, .next x false, ty, pos, after, none⟩ :: l) Kk (look el b) w := by
  obtain ⟨o, w', hr, hu, ho⟩ := run_nextM (ty := ty) hI hm
  refine RL.val' (w' := w') (v := stepK P t o) (fun _ _ => wanted_none rfl _) hd ?_ (kk w' o hu ho)
  simp only [execOp, hx]
  simp [hr]
theorem ex0k {o : Option (K × Value × Nat)} (hx : ev e x = stepK P t o) : Pure P e (.extract x 0) (.bool (decide (o ≠ none))) := by
  intro w d ty pos after g
  cases o <;> simp [execOp, hx, stepK, Instr.extract]
theorem ex1k {o : Option (K × Value × Nat)} {q : K × Value × Nat} (hx : ev e x = stepK P t o) (h : o = some q) : Pure P e (.extract x 1) (KeyT.enc P t q.1) := by
  intro w d ty pos after g
  subst h
  simp [execOp, hx, stepK, Instr.extract]
theorem ex2k {o : Option (K × Value × Nat)} {q : K × Value × Nat} (hx : ev e x = stepK P t o) (h : o = some q) : Pure P e (.extract x 2) q.2.1 := by
  intro w d ty pos after g
  subst h
  simp [execOp, hx, stepK, Instr.extract]
end
end Go.Eng
