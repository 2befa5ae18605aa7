/-
  Slices: made, grown, stored into.
-/
import Derived.Test.YtbggmjnhfacjpaaStr
set_option linter.unusedVariables false
namespace Go.Eng
open Go Go.RowKit

section
variable {P : Program} {n : Nat} {ops : Array Oper} {l : List Oper} {K : Env → World → Prop} {el : List (Nat × Value)} {b e : Env} {w : World} {dt : Nat} {op : Op} {ty : TypeId} {pos : String} {after : Array Edge}

/-- []T{} -/
theorem RL.build0 {α : Type} [Lies α] {t elem : TypeId} {sz by_ : Nat} {z : Value} [hu : Und P t (.slice elem)] [hi : Inf P elem sz by_ z] (B : Nat) (hB : B ≤ w.heap.size) (hd : Nat.blt dt n = true)
    (k : ∀ w' i, i = w.heap.size → Ext w w' → Own B w' elem (some ⟨i, 0, none⟩) 0 ([] : List α) → RL P n ops l K (look ((dt, .slice (some ⟨i, 0, none⟩) 0 0) :: el) b) w') :
    RL P n ops (⟨some dt, .buildSlice t 0 #[], ty, pos, after, none⟩ :: l) K (look el b) w := by
  obtain ⟨i, h1, h2, h3, h4⟩ := hi.h
  refine RL.val' (w' := w.alloc (.cells #[] elem)) (v := .slice (some ⟨w.heap.size, 0, none⟩) 0 0) (fun _ _ => wanted_none rfl _) hd ?_ (k _ _ rfl (Ext.alloc _ _) ⟨by simp, .inr ⟨w.heap.size, 0, #[], rfl, hB, heap_alloc_new w _, Nat.le_refl _, by simp [maxLen], by simp, by simp⟩⟩)
  simp [execOp, Instr.buildSlice, run_und hu.h, run_size h1, Instr.fill, newRow, newObj, Sem.run, show (Array.range 0) = #[] from rfl]

theorem sl_none {α : Type} [Lies α] {w : World} {l : List α} (h : Sl w none l) (hs : 0 < Lies.sz α) : l = [] := by
  have h1 : l.flatMap Lies.enc = [] := h
  have h2 := congrArg List.length h1
  rw [flatMap_length Lies.len] at h2
  cases l with
  | nil => rfl
  | cons x l =>
    rw [List.length_cons, Nat.succ_mul] at h2
    simp only [List.length_nil] at h2
    omega
theorem run_append_none {α : Type} [Lies α] {t elem : TypeId} {sz by_ : Nat} {z : Value} (hu : P.underlying t = some (.slice elem)) {i : TypeInfo} (hi : P.info? elem = some i) {B : Nat} {a : Option Addr} {c cm : Nat} {l' : List α} (hown : Own B w elem a c l') :
    (Builtin.append_ #[t, t] ty #[.slice a l'.length c, .slice none 0 cm]).run P w = .ok (.slice a l'.length c) w := by
  have hle : l'.length ≤ c := by
    rcases hown.cases with ⟨_, rfl, rfl⟩ | ⟨g, cur, _, _, _, h, _⟩
    · simp
    · exact h
  cases a <;> simp [Builtin.append_, run_und hu, run_size hi, Builtin.lenOf, hle, Builtin.firstCells, storeCells]
/-- append of a slice that is read, nil or not -/
theorem RL.appendS {α : Type} [Lies α] {t elem : TypeId} {sz by_ : Nat} {z : Value} [hu : Und P t (.slice elem)] [hi : Inf P elem sz by_ z] {x y : Operand} {B : Nat} {a : Option Addr} {c m cm : Nat} {l' new : List α} {p : Option Addr}
    (hx : ev (look el b) x = .slice a l'.length c) (hown : Own B w elem a c l') (hB : B ≤ w.heap.size) (hy : ev (look el b) y = .slice p m cm) (hnew : Sl w p new) (hm : new.length = m)
    (hsz : Lies.sz α = sz) (hsz0 : 0 < sz) (hzs : z.cells.size = sz) (h1 : ∀ (y : α) v, v ∈ Lies.enc y → v.oneCell' = true) (hlen : (l'.length + m) * by_ ≤ 140737488355328) (hlen' : l'.length + m ≤ maxLen) (hd : Nat.blt dt n = true)
    (k : ∀ w' a' c', Upd (inBlock a) w w' → Own B w' elem a' c' (l' ++ new) → Fr w a a' → RL P n ops l K (look ((dt, .slice a' (l' ++ new).length c') :: el) b) w') :
    RL P n ops (⟨some dt, .call { callee := .builtin .append, args := #[x, y], argTypes := #[t, t] }, ty, pos, after, none⟩ :: l) K (look el b) w := by
  cases p with
  | some p => exact RL.append hx hown hB hy hnew hm hsz hsz0 hzs h1 hlen hlen' hd k
  | none =>
    have hnil := sl_none hnew (by omega)
    subst hnil
    obtain ⟨i, h2, h3, h4, h5⟩ := hi.h
    have hm0 : m = 0 := hm.symm
    subst hm0
    have hk := k w a c (Upd.refl _ _) (by rw [List.append_nil]; exact hown) (Fr.refl _ _)
    rw [List.append_nil] at hk
    refine RL.val' (w' := w) (v := .slice a l'.length c) (fun _ _ => wanted_none rfl _) hd ?_ hk
    have hr := run_append_none (P := P) (w := w) (t := t) (ty := ty) (sz := sz) (by_ := by_) (z := z) hu.h h2 (cm := cm) hown
    simp [execOp, resolve, invoke, builtin, hx, hy, hr]

/-- make([]T, n) -/
theorem RL.makeSlice {α : Type} [Lies α] {t elem : TypeId} {sz by_ : Nat} {z : Value} [hu : Und P t (.slice elem)] [hi : Inf P elem sz by_ z] {x y : Operand} {m : Nat} (zero : α) (B : Nat) (hB : B ≤ w.heap.size)
    (hx : ev (look el b) x = .int .i64 (m : Int)) (hy : ev (look el b) y = .int .i64 (m : Int)) (hsz : Lies.sz α = sz) (hz : z.cells.toList = Lies.enc zero) (hb : by_ * m ≤ 281474976710656) (hm : m ≤ maxLen) (hd : Nat.blt dt n = true)
    (k : ∀ w' i, i = w.heap.size → Ext w w' → Own B w' elem (some ⟨i, 0, none⟩) m (List.replicate m zero) → RL P n ops l K (look ((dt, .slice (some ⟨i, 0, none⟩) (List.replicate m zero).length m) :: el) b) w') :
    RL P n ops (⟨some dt, .makeSlice t x y, ty, pos, after, none⟩ :: l) K (look el b) w := by
  obtain ⟨i, h1, h2, h3, h4⟩ := hi.h
  subst h2 h3
  have hb' : (i.bytes : Int) * (m : Int) ≤ 281474976710656 := by
    have : ((i.bytes * m : Nat) : Int) ≤ 281474976710656 := by omega
    rwa [Int.natCast_mul] at this
  have hr := run_make (P := P) w t elem i z hu.h h1 h4 .i64 .i64 m m (by omega) (Int.le_refl _) hb' (by simp only [maxLen] at hm; omega)
  simp only [Int.toNat_natCast] at hr
  have hzsz : z.cells.size = Lies.sz α := by rw [← Lies.len zero, ← hz]; simp
  have hflat : (madeCells z.cells (m * i.size)).toList = (List.replicate m zero).flatMap Lies.enc := by
    rw [← hsz, ← hzsz]
    apply List.ext_getElem?
    intro j
    have hl : ((List.replicate m zero).flatMap (Lies.enc (α := α))).length = m * z.cells.size := by rw [flatMap_length Lies.len, List.length_replicate, hzsz]
    by_cases hj : j < m * z.cells.size
    · have hpos : 0 < z.cells.size := by rcases Nat.eq_zero_or_pos z.cells.size with h | h; (rw [h] at hj; simp at hj); exact h
      have hq : j / z.cells.size < (List.replicate m zero).length := by rw [List.length_replicate]; exact Nat.div_lt_of_lt_mul (by rw [Nat.mul_comm]; exact hj)
      have hg := flatMap_get (α := α) Lies.len (List.replicate m zero) (j / z.cells.size) hq
      have hmod := Nat.mod_lt j hpos
      have e1 : j = (j / z.cells.size) * Lies.sz α + j % z.cells.size := by rw [← hzsz, Nat.mul_comm]; exact (Nat.div_add_mod j _).symm
      have h5 := congrArg (fun l => l[j % z.cells.size]?) hg
      simp only [List.getElem_replicate] at h5
      rw [List.getElem?_take, if_pos (by rw [← hzsz]; exact hmod), List.getElem?_drop, ← e1] at h5
      rw [h5]
      have hz2 : z.cells[j % z.cells.size]? = (Lies.enc zero)[j % z.cells.size]? := by rw [← hz]; simp
      rw [← hz2]
      simp [madeCells, hj, hmod]
    · have hm1 : (madeCells z.cells (m * z.cells.size)).toList.length = m * z.cells.size := by rw [Array.length_toList, size_madeCells]
      rw [List.getElem?_eq_none (by rw [hm1]; omega), List.getElem?_eq_none (by rw [hl]; omega)]
  refine RL.val' (w' := w.alloc (.cells (madeCells z.cells (m * i.size)) elem)) (v := .slice (some ⟨w.heap.size, 0, none⟩) (List.replicate m zero).length m) (fun _ _ => wanted_none rfl _) hd ?_ (k _ _ rfl (Ext.alloc _ _) ⟨by rw [flatMap_length Lies.len], .inr ⟨w.heap.size, m, _, rfl, hB, heap_alloc_new w _, by rw [List.length_replicate]; exact Nat.le_refl _, hm, by rw [size_madeCells, hsz], ?_⟩⟩)
  · simp only [execOp, hx, hy]
    simp [hr]
  · rw [hflat, List.take_of_length_le (Nat.le_of_eq (flatMap_length Lies.len _))]

theorem splice_mid (A E C vs : List Value) (off : Nat) (h : off + vs.length ≤ E.length) : splice (A ++ E ++ C) (A.length + off) vs = A ++ splice E off vs ++ C := by
  unfold splice
  have h1 : (A ++ E ++ C).take (A.length + off) = A ++ E.take off := by
    rw [List.append_assoc, List.take_length_add_append, List.take_append_of_le_length (by omega)]
  have h2 : (A ++ E ++ C).drop (A.length + off + vs.length) = E.drop (off + vs.length) ++ C := by
    rw [List.append_assoc, Nat.add_assoc, List.drop_length_add_append, List.drop_append_of_le_length h]
  rw [h1, h2]
  simp only [List.append_assoc]
theorem flatMap_set {α : Type} {enc : α → List Value} {sz : Nat} (hsz : ∀ x, (enc x).length = sz) (l : List α) (i : Nat) (hi : i < l.length) (x : α) (off : Nat) (vs : List Value) (h : off + vs.length ≤ sz) (hx : splice (enc l[i]) off vs = enc x) :
    (l.set i x).flatMap enc = splice (l.flatMap enc) (i * sz + off) vs := by
  have h1 : l.flatMap enc = (l.take i).flatMap enc ++ enc l[i] ++ (l.drop (i + 1)).flatMap enc := by
    have h3 : l = l.take i ++ l[i] :: l.drop (i + 1) := by rw [← List.drop_eq_getElem_cons hi, List.take_append_drop]
    have h4 := congrArg (List.flatMap enc) h3
    rw [List.flatMap_append, List.flatMap_cons, ← List.append_assoc] at h4
    exact h4
  have h2 : ((l.take i).flatMap enc).length = i * sz := by rw [flatMap_length hsz, List.length_take, Nat.min_eq_left (by omega)]
  rw [h1, ← h2, splice_mid _ _ _ _ _ (by rw [hsz]; exact h), hx, List.set_eq_take_append_cons_drop, if_pos hi]
  simp [List.flatMap_append, List.flatMap_cons]
theorem splice_take (cur : List Value) (k m : Nat) (vs : List Value) (h : k + vs.length ≤ m) (hm : m ≤ cur.length) : (splice cur k vs).take m = splice (cur.take m) k vs := by
  unfold splice
  rw [List.take_append, List.take_append]
  simp only [List.length_append, List.length_take, List.take_take, List.drop_take]
  simp only [Nat.min_eq_left (show k ≤ cur.length by omega), Nat.min_eq_left (show k ≤ m by omega), Nat.min_eq_right (show k ≤ m by omega), List.take_of_length_le (l := vs) (show vs.length ≤ m - k by omega)]
/-- a[i] = x: the cells of element i, or a part of them from off on, are stored -/
theorem own_store {α : Type} [Lies α] {elem : TypeId} {B : Nat} {a : Option Addr} {c : Nat} {l' : List α} (hown : Own B w elem a c l') {i off : Nat} {vs : List Value} {x : α} (hi : i < l'.length) (hoff : off + vs.length ≤ Lies.sz α) (hx : splice (Lies.enc l'[i]) off vs = Lies.enc x) (h1 : ∀ v ∈ vs, v.oneCell' = true)
    {t : TypeId} (ht : ∃ i, P.info? t = some i ∧ i.size = vs.length) {v : Value} (hv : v.cells = vs.toArray) :
    ∃ w', (Instr.storeAt t (elp a (i * Lies.sz α + off)) v).run P w = .ok () w' ∧ Upd (inBlock a) w w' ∧ Own B w' elem a c (l'.set i x) := by
  rcases hown.cases with ⟨rfl, rfl, rfl⟩ | ⟨g, cur, rfl, hB, hg, hle, hcs, htk⟩
  · simp at hi
  · obtain ⟨it, h2, h3⟩ := ht
    have hlen : i * Lies.sz α + Lies.sz α ≤ l'.length * Lies.sz α := by rw [← Nat.succ_mul]; exact Nat.mul_le_mul_right _ hi
    have hlen2 : l'.length * Lies.sz α ≤ cur.size := by rw [hcs]; exact Nat.mul_le_mul_right _ hle
    have hst := run_storeCells_at P g (i * Lies.sz α + off) elem vs 0 cur w hg (by omega) h1
    simp only [Nat.add_zero] at hst
    refine ⟨w.setRow g (splice cur.toList (i * Lies.sz α + off) vs).toArray, ?_, ⟨rfl, rfl, rfl, dle.refl _, by simp, fun k hk hx => setRow_other w g k _ (fun e => hx ⟨_, rfl, e.symm⟩)⟩, ?_⟩
    · have hadd : (⟨g, 0, none⟩ : Addr).add (i * Lies.sz α + off) = ⟨g, i * Lies.sz α + off, none⟩ := by rw [addr_add _ rfl]; simp
      simp [Instr.storeAt, Instr.sureAddr, elp, storeVar, hv, run_size h2, h3, hadd, hst, splice]
    · have hcells := flatMap_set Lies.len l' i hi x off vs hoff hx
      refine ⟨by rw [flatMap_length Lies.len, List.length_set], .inr ⟨g, c, _, by rw [List.length_set], hB, setRow_heap w g cur _ elem _ hg, by rw [List.length_set]; exact hle, ?_, ?_, ?_⟩⟩
      · rcases hown.2 with ⟨h, _⟩ | ⟨g', cap, cur', h1', _, _, _, h5', _⟩
        · cases h
        · injection h1' with e1 e2 e3; subst e3; exact h5'
      · simp [splice]; rw [← hcs]; omega
      · rw [List.length_set, hcells, ← htk, splice_take _ _ _ _ (by omega) (by simpa using hlen2)]
end
end Go.Eng
