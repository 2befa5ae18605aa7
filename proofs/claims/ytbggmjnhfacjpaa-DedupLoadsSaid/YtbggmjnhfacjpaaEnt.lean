/-
  Entries of maps that are held while their value is made: mapEntry, entryStore.
-/
import Derived.Test.YtbggmjnhfacjpaaRng
set_option linter.unusedVariables false
namespace Go.Eng
open Go Go.RowKit

section
variable {P : Program} {t : TypeId} {K : Type} [DecidableEq K] [KeyT P t K] {B m c : Nat} {w w' : World} {lb : List (K × Value × Nat)}
/-- the stamp of a key's entry, when it is put -/
def stampB (lb : List (K × Value × Nat)) (c : Nat) (k : K) : Nat := ((lb.find? fun x => decide (x.1 = k)).map (·.2.2)).getD c
theorem getB_set (lb : List (K × Value × Nat)) (c : Nat) (k : K) (v : Value) : getB (setB lb c k v) k = some v := by
  unfold setB
  cases hg : getB lb k with
  | none =>
    simp only [Option.isSome_none, Bool.false_eq_true, if_false]
    unfold getB at hg ⊢
    rw [Option.map_eq_none_iff] at hg
    rw [List.find?_append, hg]
    simp
  | some u =>
    simp only [Option.isSome_some, if_true]
    unfold getB at hg ⊢
    rw [Option.map_eq_some_iff] at hg
    obtain ⟨x, hx, _⟩ := hg
    induction lb with
    | nil => cases hx
    | cons y lb ih =>
      by_cases h : y.1 = k
      · simp [h]
      · simp only [List.find?_cons, h, decide_false] at hx
        simp only [List.map_cons, h, if_false, List.find?_cons, decide_false]
        exact ih hx
theorem setB_set (lb : List (K × Value × Nat)) (c c' : Nat) (k : K) (u v : Value) : setB (setB lb c k u) c' k v = setB lb c k v ∧ nextB (setB lb c k u) c' k = c' := by
  have hg := getB_set lb c k u
  refine ⟨?_, by unfold nextB; rw [hg]; rfl⟩
  have h0 : setB (setB lb c k u) c' k v = (setB lb c k u).map (fun x => if x.1 = k then (k, v, x.2.2) else x) := by
    show (if (getB (setB lb c k u) k).isSome = true then _ else _) = _
    rw [if_pos (by rw [hg]; rfl)]
  rw [h0]
  unfold setB
  cases hq : getB lb k with
  | none =>
    simp only [Option.isSome_none, Bool.false_eq_true, if_false, List.map_append, List.map_cons, List.map_nil, if_true]
    congr 1
    conv => rhs; rw [← List.map_id lb]
    apply List.map_congr_left
    intro x hx
    rw [getB_none] at hq
    rw [if_neg (hq x hx)]; rfl
  | some z =>
    simp only [Option.isSome_some, if_true, List.map_map]
    apply List.map_congr_left
    intro x hx
    simp only [Function.comp]
    split
    · simp
    · rename_i h; simp
theorem stampB_mem (lb : List (K × Value × Nat)) (c : Nat) (k : K) (v : Value) : (k, v, stampB lb c k) ∈ setB lb c k v := by
  unfold setB stampB
  cases hf : lb.find? fun x => decide (x.1 = k) with
  | none =>
    have : getB lb k = none := by unfold getB; rw [hf]; rfl
    rw [this]; simp
  | some x =>
    have : getB lb k = some x.2.1 := by unfold getB; rw [hf]; rfl
    rw [this]
    simp only [Option.isSome_some, if_true, Option.map_some, Option.getD_some]
    have hk : x.1 = k := by simpa using List.find?_some hf
    exact List.mem_map.2 ⟨x, List.mem_of_find?_eq_some hf, by rw [if_pos hk]⟩
theorem run_entryB {mt et : TypeId} {z : Value} {sz by_ : Nat} (hu : P.underlying mt = some (.map t et)) (hz : ∃ i, P.info? et = some i ∧ i.size = sz ∧ i.bytes = by_ ∧ i.zero = some z) (h : MpB P t B w m lb c) (k : K) :
    ∃ w', (Instr.mapEntry mt (.map (some m)) (KeyT.enc P t k)).run P w = .ok (.tuple #[(getB lb k).getD z, .int .i64 (stampB lb c k : Int)]) w' ∧ Upd (· = m) w w' ∧ MpB P t B w' m (setB lb c k ((getB lb k).getD z)) (nextB lb c k) := by
  obtain ⟨w1, hr, h3, h4⟩ := run_updateB hu h k ((getB lb k).getD z)
  refine ⟨w1, ?_, h3, h4⟩
  obtain ⟨es, h1, h2⟩ := h.at_
  have hf := run_findB h k h2
  have hck := KeyT.check (P := P) (t := t) false k w
  have hg := getB_idx k lb
  obtain ⟨it, hi1, _, _, hi4⟩ := hz
  have hzv : (zeroValue et).run P w = .ok z w := by simp [zeroValue, typeInfo, hi1, hi4]
  cases hq : lb.findIdx? fun x => decide (x.1 = k) with
  | none =>
    rw [hq] at hf hg
    simp only [Option.map_none] at hf hg
    have hno : lb.find? (fun x => decide (x.1 = k)) = none := by
      rw [List.find?_eq_none]
      intro x hx
      have := getB_none.1 hg.symm x hx
      simpa using this
    rw [← hg] at hr ⊢
    simp only [Option.getD_none] at hr ⊢
    simp only [Instr.mapUpdate, Sem.run_bind, run_und hu, run_getObj h1, hck, hf, Result.andThen_ok, run_setObj h1] at hr
    simp only [Instr.mapEntry, Sem.run_bind, run_und hu, run_getObj h1, hck, hf, Result.andThen_ok, hzv, run_setObj h1, Sem.run_pure]
    have hw : ({ w with heap := w.heap.setIfInBounds m (.map (es.push { key := KeyT.enc P t k, val := z, born := c }) (c + 1)) } : World) = w1 := by injection hr
    rw [hw]
    simp [stampB, hno, goInt]
  | some i =>
    rw [hq] at hf hg
    simp only [Option.map_some] at hf hg
    rw [List.findIdx?_eq_some_iff_getElem] at hq
    obtain ⟨hi, hk, hmin⟩ := hq
    have hk : lb[i].1 = k := by simpa using hk
    have he : es[i]? = some (entM (P := P) (t := t) lb[i]) := by rw [← Array.getElem?_toList, h2]; simp [hi]
    have hstay : (Instr.keyThatStays (((es[i]?).map (·.key)).getD (KeyT.enc P t k)) (KeyT.enc P t k)).run P w = .ok (KeyT.enc P t k) w := by
      rw [he]
      simp only [Option.map_some, Option.getD_some, entM, hk, Instr.keyThatStays, KeyT.bits, if_true]
      rfl
    have hv : ((lb[i]?).map (·.2.1)).getD undef = lb[i].2.1 := by simp [hi]
    rw [hv] at hf hg
    rw [← hg] at hr ⊢
    simp only [Option.getD_some] at hr ⊢
    simp only [Instr.mapUpdate, Sem.run_bind, run_und hu, run_getObj h1, hck, hf, Result.andThen_ok, hstay, run_setObj h1] at hr
    simp only [Instr.mapEntry, Sem.run_bind, run_und hu, run_getObj h1, hck, hf, Result.andThen_ok, hstay, run_setObj h1, Sem.run_pure]
    have hes : (es.modify i fun e => { e with key := KeyT.enc P t k, val := lb[i].2.1 }) = es.modify i fun e => { e with key := KeyT.enc P t k } := by
      apply Array.ext_getElem?
      intro j
      simp only [Array.getElem?_modify]
      by_cases e : i = j
      · subst e; simp [he, entM]
      · simp [e]
    rw [hes] at hr
    have hw : ({ w with heap := w.heap.setIfInBounds m (.map (es.modify i fun e => { e with key := KeyT.enc P t k }) c) } : World) = w1 := by injection hr
    rw [hw]
    have hfd : lb.find? (fun x => decide (x.1 = k)) = some lb[i] := by
      rw [List.find?_eq_some_iff_getElem]
      exact ⟨by simpa using hk, i, hi, rfl, fun j hj => by have := hmin j hj; simpa using this⟩
    simp [stampB, hfd, he, entM, goInt]
theorem run_entryStoreB {mt et : TypeId} (hu : P.underlying mt = some (.map t et)) (h : MpB P t B w m lb c) {k : K} {u : Value} {s : Nat} (hs : (k, u, s) ∈ lb) (v : Value) :
    ∃ w', (Instr.entryStore mt (.map (some m)) (.int .i64 (s : Int)) v).run P w = .ok () w' ∧ Upd (· = m) w w' ∧ MpB P t B w' m (setB lb c k v) (nextB lb c k) := by
  obtain ⟨w1, hr, h3, h4⟩ := run_updateB hu h k v
  refine ⟨w1, ?_, h3, h4⟩
  obtain ⟨es, h1, h2⟩ := h.at_
  have hf := run_findB h k h2
  have hck := KeyT.check (P := P) (t := t) false k w
  obtain ⟨i, hi, hil⟩ := List.getElem_of_mem hs
  have he : es[i]? = some (entM (P := P) (t := t) (k, u, s)) := by rw [← Array.getElem?_toList, h2]; simp [hi, hil]
  have hsz : es.size = lb.length := by rw [← Array.length_toList, h2]; simp
  have hidx : (lb.findIdx? fun x => decide (x.1 = k)) = some i := by
    rw [List.findIdx?_eq_some_iff_getElem]
    refine ⟨hi, by simp [hil], fun j hj => ?_⟩
    simp only [decide_eq_true_eq]
    intro e
    have := nodup_at h.nod (i := j) (j := i) (by omega) hi (by rw [e, hil])
    omega
  have hborn : es.findIdx? (fun e => (e.born : Int) == (s : Int)) = some i := by
    rw [Array.findIdx?_eq_some_iff_getElem]
    have hgi : ∀ (j : Nat) (hj : j < es.size), es[j] = entM (P := P) (t := t) (lb[j]'(by omega)) := by
      intro j hj
      have : es[j]? = some (entM (P := P) (t := t) (lb[j]'(by omega))) := by rw [← Array.getElem?_toList, h2]; simp [show j < lb.length by omega]
      rw [Array.getElem?_eq_getElem hj] at this
      exact Option.some.inj this
    refine ⟨by omega, ?_, fun j hj => ?_⟩
    · rw [hgi i (by omega), hil]; simp [entM]
    · rw [hgi j (by omega)]
      simp only [entM, beq_iff_eq]
      intro e
      have e2 : (lb[j]'(by omega)).2.2 = s := by omega
      have h6 : (lb.map (·.2.2))[j]? = (lb.map (·.2.2))[i]? := by simp [hi, show j < lb.length by omega, e2, hil]
      have h7 : j = i := (List.getElem?_inj (by simp; omega) h.nob).1 h6
      omega
  have hstay : (Instr.keyThatStays (((es[i]?).map (·.key)).getD (KeyT.enc P t k)) (KeyT.enc P t k)).run P w = .ok (KeyT.enc P t k) w := by
    rw [he]
    simp only [Option.map_some, Option.getD_some, entM, Instr.keyThatStays, KeyT.bits, if_true]
    rfl
  rw [hidx] at hf
  simp only [Option.map_some] at hf
  simp only [Instr.mapUpdate, Sem.run_bind, run_und hu, run_getObj h1, hck, hf, Result.andThen_ok, hstay, run_setObj h1] at hr
  have hes : (es.modify i fun e => { e with key := KeyT.enc P t k, val := v }) = es.modify i fun e => { e with val := v } := by
    apply Array.ext_getElem?
    intro j
    simp only [Array.getElem?_modify]
    by_cases e : i = j
    · subst e; simp [he, entM]
    · simp [e]
  rw [hes] at hr
  have hw : ({ w with heap := w.heap.setIfInBounds m (.map (es.modify i fun e => { e with val := v }) c) } : World) = w1 := by injection hr
  have hai : (asInt (.int .i64 (s : Int))).run P w = .ok (s : Int) w := by simp [asInt, asIntOf]
  simp only [Instr.entryStore, Sem.run_bind, run_getObj h1, Result.andThen_ok, hai, hborn, run_setObj h1]
  rw [hw]
end
section
variable {P : Program} {n : Nat} {ops : Array Oper} {l : List Oper} {Kk : Env → World → Prop} {el : List (Nat × Value)} {b e : Env} {w : World} {dt : Nat} {ty : TypeId} {pos : String} {after : Array Edge} {x y z : Operand} {t mt et : TypeId} {K : Type} [DecidableEq K] [KeyT P t K] {B m c : Nat} {lb : List (K × Value × Nat)}
theorem RL.entM {sz by_ : Nat} {zv : Value} [hu : Und P mt (.map t et)] [hi : Inf P et sz by_ zv] {k : K} (hx : ev (look el b) x = .map (some m)) (hm : MpB P t B w m lb c) (hy : ev (look el b) y = KeyT.enc P t k) (hd : Nat.blt dt n = true)
    (kk : ∀ w', Upd (· = m) w w' → MpB P t B w' m (setB lb c k ((getB lb k).getD zv)) (nextB lb c k) → RL P n ops l Kk (look ((dt, .tuple #[(getB lb k).getD zv, .int .i64 (stampB lb c k : Int)]) :: el) b) w') :
    RL P n ops (⟨some dt, .mapEntry mt x y, ty, pos, after, none⟩ :: l) Kk (look el b) w := by
  obtain ⟨w', hr, h1, h2⟩ := run_entryB hu.h hi.h hm k
  refine RL.val' (w' := w') (v := .tuple #[(getB lb k).getD zv, .int .i64 (stampB lb c k : Int)]) (fun _ _ => wanted_none rfl _) hd ?_ (kk w' h1 h2)
  simp only [execOp, hx, hy]
  simp [hr]
theorem RL.entS {k : K} {u v : Value} {lb0 : List (K × Value × Nat)} {c0 : Nat} [hu : Und P mt (.map t et)] (hx : ev (look el b) x = .map (some m)) (hm : MpB P t B w m (setB lb0 c0 k u) (nextB lb0 c0 k)) (hy : ev (look el b) y = .int .i64 (stampB lb0 c0 k : Int)) (hz : ev (look el b) z = v)
    (kk : ∀ w', Upd (· = m) w w' → MpB P t B w' m (setB lb0 c0 k v) (nextB lb0 c0 k) → RL P n ops l Kk (look el b) w') :
    RL P n ops (⟨none, .entryStore mt x y z, ty, pos, after, none⟩ :: l) Kk (look el b) w := by
  obtain ⟨w', hr, h1, h2⟩ := run_entryStoreB hu.h hm (stampB_mem lb0 c0 k u) v
  rw [(setB_set _ _ _ _ _ _).1, (setB_set lb0 c0 (nextB lb0 c0 k) k u v).2] at h2
  refine RL.skip' (w' := w') (fun _ _ => wanted_none rfl _) rfl ?_ (kk w' h1 h2)
  simp only [execOp, hx, hy, hz]
  simp [hr]
end
end Go.Eng
