/-
  Maps: what is known of one, and what the operations on it do.
-/
import Derived.Test.YtbggmjnhfacjpaaDraw
set_option linter.unusedVariables false
namespace Go.Eng
open Go Go.RowKit

/-- the place of the first entry with this key -/
def findK {K : Type} [DecidableEq K] (k : K) : List K → List MapEntry → Nat → Option (Nat × Value)
  | k' :: ks, e :: es, i => if k = k' then some (i, e.val) else findK k ks es (i + 1)
  | _, _, _ => none
/-- a type of keys -/
class KeyT (P : Program) (t : TypeId) (K : Type) [DecidableEq K] where
  enc : K → Value
  find : ∀ (k : K) (ks : List K) (es : List MapEntry), es.map (·.key) = ks.map enc → ∀ w, (Instr.findKey t (enc k) es).run P w = .ok (findK k ks es 0) w
  check : ∀ (b : Bool) (k : K) w, (Instr.checkKey b 10000 t (enc k)).run P w = .ok () w
  bits : ∀ k : K, Instr.sameBits 10000 (enc k) (enc k) = true

/-- Map number m, not older than B, holds l: keys and values, each key once. -/
def Mp (P : Program) (t : TypeId) {K : Type} [DecidableEq K] [KeyT P t K] (B : Nat) (w : World) (m : Nat) (l : List (K × Value)) : Prop :=
  B ≤ m ∧ (l.map (·.1)).Nodup ∧ ∃ es clock, w.heap[m]? = some (.map es clock) ∧ es.toList.map (·.key) = (l.map (·.1)).map (KeyT.enc P t) ∧ es.toList.map (·.val) = l.map (·.2) ∧ (∀ e ∈ es.toList, e.born < clock) ∧ (es.toList.map (·.born)).Nodup

section
variable {P : Program} {t : TypeId} {K : Type} [DecidableEq K] [KeyT P t K] {B m : Nat} {w w' : World} {l : List (K × Value)}
theorem Mp.lt (h : Mp P t B w m l) : m < w.heap.size := by
  obtain ⟨_, _, es, c, h1, _⟩ := h
  exact (Array.getElem?_eq_some_iff.1 h1).1
theorem Mp.ext (h : Mp P t B w m l) (k : Ext w w') : Mp P t B w' m l := by
  obtain ⟨h0, hn, es, c, h1, h2⟩ := h
  exact ⟨h0, hn, es, c, k.heap h1, h2⟩
theorem Mp.upd {X : Nat → Prop} (h : Mp P t B w m l) (k : Upd X w w') (hx : ¬ X m) : Mp P t B w' m l := by
  obtain ⟨h0, hn, es, c, h1, h2⟩ := h
  exact ⟨h0, hn, es, c, k.heap h1 hx, h2⟩
theorem Mp.old (h : Mp P t B w m l) : B ≤ m := h.1
theorem Mp.ne (h : Mp P t B w m l) {b : Nat} (hb : b = w.heap.size) : m ≠ b := fun e => by have := h.lt; omega
theorem Ext.mp {w0 : World} (H : Ext w0 w) (k : Upd (· = m) w w') (hb : w0.heap.size ≤ m) : Ext w0 w' := H.box k hb

/-- what a map has at a key -/
def getM (l : List (K × Value)) (k : K) : Option Value := (l.find? fun p => decide (p.1 = k)).map (·.2)
/-- a key is put -/
def setM (l : List (K × Value)) (k : K) (v : Value) : List (K × Value) := if (l.any fun p => decide (p.1 = k)) = true then l.map (fun p => if p.1 = k then (k, v) else p) else l ++ [(k, v)]
/-- a key goes -/
def delM (l : List (K × Value)) (k : K) : List (K × Value) := l.filter fun p => !decide (p.1 = k)

theorem findK_none (k : K) : ∀ (l : List (K × Value)) (es : List MapEntry) (i : Nat), es.map (·.val) = l.map (·.2) → (findK k (l.map (·.1)) es i).isNone = !(l.any fun p => decide (p.1 = k))
  | [], [], i, _ => by simp [findK]
  | [], e :: es, i, h => by simp at h
  | p :: l, [], i, h => by simp at h
  | p :: l, e :: es, i, h => by
    simp only [List.map_cons, List.cons.injEq] at h
    simp only [List.map_cons, findK]
    split
    · rename_i hk; subst hk; simp
    · rename_i hk
      have hk' : ¬ p.1 = k := fun e => hk e.symm
      rw [findK_none k l es (i + 1) h.2]
      simp [hk']
theorem findK_val (k : K) : ∀ (l : List (K × Value)) (es : List MapEntry) (i : Nat), es.map (·.val) = l.map (·.2) → (findK k (l.map (·.1)) es i).map (·.2) = getM l k
  | [], [], i, _ => by simp [findK, getM]
  | [], e :: es, i, h => by simp at h
  | p :: l, [], i, h => by simp at h
  | p :: l, e :: es, i, h => by
    simp only [List.map_cons, List.cons.injEq] at h
    simp only [List.map_cons, findK]
    split
    · rename_i hk; subst hk; simp [getM, h.1]
    · rename_i hk
      have hk' : ¬ p.1 = k := fun e => hk e.symm
      rw [findK_val k l es (i + 1) h.2]
      simp [getM, hk']
theorem findK_at (k : K) : ∀ (ks : List K) (es : List MapEntry) (i j : Nat) (v : Value), findK k ks es i = some (j, v) → i ≤ j ∧ ks[j - i]? = some k ∧ (es[j - i]?).isSome = true ∧ ∀ n, n < j - i → ks[n]? ≠ some k
  | [], es, i, j, v, h => by simp [findK] at h
  | k' :: ks, [], i, j, v, h => by simp [findK] at h
  | k' :: ks, e :: es, i, j, v, h => by
    simp only [findK] at h
    split at h
    · rename_i hk
      simp only [Option.some.injEq, Prod.mk.injEq] at h
      obtain ⟨rfl, _⟩ := h
      refine ⟨Nat.le_refl _, by simp [hk], by simp, fun n hn => by omega⟩
    · rename_i hk
      obtain ⟨h1, h2, h3, h4⟩ := findK_at k ks es (i + 1) j v h
      have e1 : j - i = (j - (i + 1)) + 1 := by omega
      refine ⟨by omega, by rw [e1]; simpa using h2, by rw [e1]; simpa using h3, fun n hn => ?_⟩
      cases n with
      | zero => simp; exact fun h => hk h.symm
      | succ n => simpa using h4 n (by omega)
end

section
variable {P : Program} {n : Nat} {ops : Array Oper} {l : List Oper} {Kk : Env → World → Prop} {el : List (Nat × Value)} {b : Env} {w : World} {dt : Nat} {op : Op} {ty : TypeId} {pos : String} {after : Array Edge}
theorem RL.makeMap {mt : TypeId} (B : Nat) (hB : B ≤ w.heap.size) (hd : Nat.blt dt n = true) (t : TypeId) (K : Type) [DecidableEq K] [KeyT P t K]
    (k : ∀ w' i, i = w.heap.size → Ext w w' → Mp P t B w' i ([] : List (K × Value)) → RL P n ops l Kk (look ((dt, .map (some i)) :: el) b) w') :
    RL P n ops (⟨some dt, .makeMap mt none, ty, pos, after, none⟩ :: l) Kk (look el b) w := by
  refine RL.val' (w' := w.alloc (.map #[] 0)) (v := .map (some w.heap.size)) (fun _ _ => wanted_none rfl _) hd ?_ (k _ _ rfl (Ext.alloc _ _) ⟨hB, by simp, #[], 0, heap_alloc_new w _, by simp, by simp, by simp, by simp⟩)
  simp [execOp, Instr.makeMap, newObj, Sem.run]

theorem run_getObj {w : World} {m : Nat} {es : Array MapEntry} {c : Nat} (h : w.heap[m]? = some (.map es c)) : (getObj m).run P w = .ok (.map es c) w := by
  simp [getObj, Sem.run, h]
theorem run_setObj {w : World} {m : Nat} {es es' : Array MapEntry} {c c' : Nat} (h : w.heap[m]? = some (.map es c)) : (setObj m (.map es' c')).run P w = .ok () { w with heap := w.heap.setIfInBounds m (.map es' c') } := by
  simp [setObj, Sem.run, h]
def World.putObj (w : World) (m : Nat) (o : Obj) : World := { w with heap := w.heap.setIfInBounds m o }
theorem Upd.putObj (w : World) (m : Nat) (o : Obj) : Upd (· = m) w (World.putObj w m o) :=
  ⟨rfl, rfl, rfl, dle.refl _, by simp [World.putObj], fun k hk hx => by simp [World.putObj, Ne.symm hx]⟩
theorem putObj_at {w : World} {m : Nat} {o o' : Obj} (h : w.heap[m]? = some o') : (World.putObj w m o).heap[m]? = some o := by
  have := (Array.getElem?_eq_some_iff.1 h).1
  simp [World.putObj, this]

theorem any_keys {K : Type} [DecidableEq K] (l : List (K × Value)) (k : K) : (l.any fun p => decide (p.1 = k)) = decide (k ∈ l.map (·.1)) := by
  rw [Bool.eq_iff_iff]
  simp only [List.any_eq_true, decide_eq_true_eq, List.mem_map]
theorem setM_keys {K : Type} [DecidableEq K] (l : List (K × Value)) (k : K) (v : Value) : (setM l k v).map (·.1) = if k ∈ l.map (·.1) then l.map (·.1) else l.map (·.1) ++ [k] := by
  unfold setM
  rw [any_keys]
  by_cases h : k ∈ l.map (·.1)
  · simp only [h, decide_true, if_true]
    rw [List.map_map]
    apply List.map_congr_left
    intro p _
    by_cases hp : p.1 = k <;> simp [hp]
  · simp [h]
theorem setM_nodup {K : Type} [DecidableEq K] {l : List (K × Value)} (h : (l.map (·.1)).Nodup) (k : K) (v : Value) : ((setM l k v).map (·.1)).Nodup := by
  rw [setM_keys]
  split
  · exact h
  · rename_i hk
    rw [List.nodup_append]
    exact ⟨h, by simp, by simp; intro a x ha e; subst e; exact hk (List.mem_map.2 ⟨_, ha, rfl⟩)⟩

/-- m[k] = v -/
theorem run_mapUpdate {t : TypeId} {K : Type} [DecidableEq K] [KeyT P t K] {mt e_ : TypeId} (hu : P.underlying mt = some (.map t e_)) {B m : Nat} {w : World} {lm : List (K × Value)} (h : Mp P t B w m lm) (k : K) (v : Value) :
    ∃ w', (Instr.mapUpdate mt (.map (some m)) (KeyT.enc P t k) v).run P w = .ok () w' ∧ Upd (· = m) w w' ∧ Mp P t B w' m (setM lm k v) := by
  obtain ⟨hB, hn, es, c, h1, h2, h3, h4, h5⟩ := h
  have hf := KeyT.find (P := P) (t := t) k (lm.map (·.1)) es.toList h2 w
  have hck := KeyT.check (P := P) (t := t) false k w
  have hlen : es.toList.length = lm.length := by have := congrArg List.length h3; simpa using this
  have hnone := findK_none k lm es.toList 0 h3
  cases hq : findK k (lm.map (·.1)) es.toList 0 with
  | none =>
    rw [hq] at hnone
    have hany : (lm.any fun p => decide (p.1 = k)) = false := by simpa using hnone.symm
    refine ⟨World.putObj w m (.map (es.push { key := KeyT.enc P t k, val := v, born := c }) (c + 1)), ?_, Upd.putObj _ _ _, hB, setM_nodup hn k v, _, _, putObj_at h1, ?_, ?_, ?_, ?_⟩
    · simp only [Instr.mapUpdate, Sem.run_bind, run_und hu, run_getObj h1, hck, hf, hq, Result.andThen_ok, run_setObj h1]; rfl
    · simp [setM, hany, h2]
    · simp [setM, hany, h3]
    · intro e he
      simp only [Array.toList_push, List.mem_append, List.mem_singleton] at he
      rcases he with he | rfl
      · have := h4 e he; omega
      · simp
    · simp only [Array.toList_push, List.map_append, List.map_cons, List.map_nil]
      rw [List.nodup_append]
      refine ⟨h5, by simp, ?_⟩
      simp only [List.mem_singleton]
      intro a ha x hx e
      obtain ⟨y, hy, rfl⟩ := List.mem_map.1 ha
      have := h4 y hy
      omega
  | some r =>
    obtain ⟨i, v0⟩ := r
    rw [hq] at hnone
    have hany : (lm.any fun p => decide (p.1 = k)) = true := by simpa using hnone.symm
    obtain ⟨_, hk, hes, hfirst⟩ := findK_at k _ _ _ _ _ hq
    simp only [Nat.sub_zero] at hk hes hfirst
    obtain ⟨e0, he0⟩ := Option.isSome_iff_exists.1 hes
    have hkey : e0.key = KeyT.enc P t k := by
      have := congrArg (fun l => l[i]?) h2
      simp only [List.getElem?_map, he0, Option.map_some] at this
      rw [List.getElem?_map] at hk
      rw [hk] at this
      simpa using this
    have hstay : (Instr.keyThatStays (((es[i]?).map (·.key)).getD (KeyT.enc P t k)) (KeyT.enc P t k)).run P w = .ok (KeyT.enc P t k) w := by
      have : es[i]? = some e0 := by simpa using he0
      rw [this]
      simp only [Option.map_some, Option.getD_some, hkey, Instr.keyThatStays, KeyT.bits, if_true]
      rfl
    refine ⟨World.putObj w m (.map (es.modify i fun e => { e with key := KeyT.enc P t k, val := v }) c), ?_, Upd.putObj _ _ _, hB, setM_nodup hn k v, _, _, putObj_at h1, ?_, ?_, ?_, ?_⟩
    · simp only [Instr.mapUpdate, Sem.run_bind, run_und hu, run_getObj h1, hck, hf, hq, Result.andThen_ok, hstay, run_setObj h1]; rfl
    · rw [setM_keys, if_pos (by rw [any_keys] at hany; simpa using hany), ← h2]
      apply List.ext_getElem?
      intro j
      simp only [Array.toList_modify, List.getElem?_map, List.getElem?_modify]
      by_cases hj : i = j
      · subst hj; simp [he0, hkey]
      · simp [hj]
    · apply List.ext_getElem?
      intro j
      simp only [Array.toList_modify, List.getElem?_map, List.getElem?_modify, setM, hany, if_true]
      have h3j := congrArg (fun l => l[j]?) h3
      simp only [List.getElem?_map] at h3j
      by_cases hj : i = j
      · subst hj
        rw [List.getElem?_map] at hk
        obtain ⟨p, hp, hpk⟩ : ∃ p, lm[i]? = some p ∧ p.1 = k := by
          cases hl : lm[i]? with
          | none => simp [hl] at hk
          | some p => exact ⟨p, rfl, by simpa [hl] using hk⟩
        simp [he0, hp, hpk]
      · simp only [hj, if_false]
        cases hl : lm[j]? with
        | none => simp [hl] at h3j ⊢; exact h3j
        | some p =>
          have hpk : ¬ p.1 = k := by
            intro hpk
            have h6 : (lm.map (·.1))[i]? = (lm.map (·.1))[j]? := by
              rw [hk]; simp [hl, hpk]
            have hilt : i < (lm.map (·.1)).length := by
              rcases Nat.lt_or_ge i (lm.map (·.1)).length with h' | h'
              · exact h'
              · rw [List.getElem?_eq_none h'] at hk; cases hk
            exact hj ((List.getElem?_inj hilt hn).1 h6)
          simp [hl] at h3j
          obtain ⟨e1, he1, hv1⟩ := h3j
          simp [hpk, he1, hv1]
    · intro e he
      obtain ⟨j, hj⟩ := List.mem_iff_getElem?.1 he
      simp only [Array.toList_modify, List.getElem?_modify] at hj
      cases hl : es.toList[j]? with
      | none => simp [hl] at hj
      | some e1 =>
        have := h4 e1 (List.mem_iff_getElem?.2 ⟨j, hl⟩)
        simp only [hl, Option.map_eq_map, Option.map_some, Option.some.injEq] at hj
        subst hj
        split <;> exact this
    · have : (es.modify i fun e => { e with key := KeyT.enc P t k, val := v }).toList.map (·.born) = es.toList.map (·.born) := by
        apply List.ext_getElem?
        intro j
        simp only [Array.toList_modify, List.getElem?_map, List.getElem?_modify]
        cases hl : es.toList[j]? with
        | none => simp
        | some e1 => simp only [Option.map_some]; split <;> rfl
      rw [this]; exact h5
theorem RL.mapUpdate {t mt e_ : TypeId} {K : Type} [DecidableEq K] [KeyT P t K] [hu : Und P mt (.map t e_)] {x y z : Operand} {B m : Nat} {lm : List (K × Value)} {k : K} {v : Value} (hx : ev (look el b) x = .map (some m)) (hm : Mp P t B w m lm) (hy : ev (look el b) y = KeyT.enc P t k) (hz : ev (look el b) z = v)
    (kk : ∀ w', Upd (· = m) w w' → Mp P t B w' m (setM lm k v) → RL P n ops l Kk (look el b) w') :
    RL P n ops (⟨none, .mapUpdate mt x y z, ty, pos, after, none⟩ :: l) Kk (look el b) w := by
  obtain ⟨w', hr, h1, h2⟩ := run_mapUpdate hu.h hm k v
  refine RL.skip' (w' := w') (fun _ _ => wanted_none rfl _) rfl ?_ (kk w' h1 h2)
  simp only [execOp, hx, hy, hz]
  simp [hr]
end
end Go.Eng
