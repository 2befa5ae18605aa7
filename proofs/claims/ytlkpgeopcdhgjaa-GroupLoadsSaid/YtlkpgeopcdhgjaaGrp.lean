/-
  Struct values as elements of maps; fields of values; rows that shrink.
-/
import Derived.Test.YtlkpgeopcdhgjaaTab
import Derived.Test.YtlkpgeopcdhgjaaSlc
import Derived.Test.YtlkpgeopcdhgjaaGrid
import Derived.Lib.SliceRun
set_option linter.unusedVariables false
namespace Go.Eng
open Go Go.RowKit

section
variable {P : Program} {e : Env} {x y z : Operand} {t t' s et mt : TypeId} {w : World}
/-- a slice held against nil -/
theorem sleqn {a : Option Addr} {n c n' c' : Nat} {el : TypeId} [hu : Und P t (.slice el)] (hx : ev e x = .slice a n c) (hy : ev e y = .slice none n' c') : Pure P e (.binOp .eql t x y t') (.bool (decide (a = none))) := by
  intro w d ty pos after g
  have h := Go.Lib.run_eql_slice_nil w t el a n c n' c' hu.h
  simp only [execOp, hx, hy]
  simp [eqGuard, h]
  cases a <;> rfl
/-- a field of a struct value -/
theorem fld_v {f off : Nat} {ft : TypeId} {cs : List Value} {v : Value} [hf : Fld P s f off ft] [hl : Flat P ft] (hx : ev e x = .agg cs.toArray) (hv : cs[off]? = some v) : Pure P e (.field s x f) v := by
  intro w d ty pos after g
  obtain ⟨fs, fld, i, h1, h2, h3, h4, h5, h6⟩ := hf.h
  obtain ⟨dd, h7, h8⟩ := hl.h
  have hp := part_flat (P := P) (ft := fld.type) (d := dd) (by rw [h3]; exact h7) h8 (cs := cs) (k := off) hv w
  simp only [execOp, hx]
  simp [Instr.field, run_und h1, h2, asAgg, h4, hp]
theorem fld_s {f off sz : Nat} {ft : TypeId} {cs : List Value} [hf : Fld P s f off ft] [hl : Agg P ft sz] (hx : ev e x = .agg cs.toArray) (hv : off + sz ≤ cs.length) : Pure P e (.field s x f) (.agg ((cs.drop off).take sz).toArray) := by
  intro w d ty pos after g
  obtain ⟨fs, fld, i, h1, h2, h3, h4, h5, h6⟩ := hf.h
  obtain ⟨dd, j, h7, h8, h9, h10⟩ := hl.h
  have hag : (isAgg fld.type).run P w = .ok true w := by
    rw [h3]
    simp only [isAgg, Sem.run_bind, run_und h7, Result.andThen_ok]
    cases dd <;> first | rfl | cases h8
  have hsz : (sizeOf fld.type).run P w = .ok sz w := by rw [h3]; simp [sizeOf, typeInfo, h9, h10]
  have hp : (part fld.type cs.toArray off).run P w = .ok (.agg ((cs.drop off).take sz).toArray) w := by
    have he : cs.toArray.extract off (off + sz) = ((cs.drop off).take sz).toArray := by
      apply Array.toList_inj.1
      simp [List.extract_eq_take_drop]
    simp [part, hag, hsz]
  simp only [execOp, hx]
  simp [Instr.field, run_und h1, h2, asAgg, h4, hp]
end
section
variable {P : Program} {n : Nat} {ops : Array Oper} {l : List Oper} {Kk : Env → World → Prop} {el : List (Nat × Value)} {b e : Env} {w : World} {dt : Nat} {ty : TypeId} {pos : String} {after : Array Edge} {x y z : Operand} {t mt et : TypeId} {K : Type} [DecidableEq K] [KeyT P t K] {B m c : Nat} {lb : List (K × Value × Nat)}
/-- structs looked up -/
theorem lkS {α : Type} [Lies α] {sz by_ : Nat} {zv : Value} {z0 : α} [hu : Und P mt (.map t et)] [hi : Inf P et sz by_ zv] {k : K} {o : Option α} (hx : ev e x = .map (some m)) (hm : MpB P t B w m lb c) (hy : ev e y = KeyT.enc P t k) (hg : getB lb k = o.map fun s => Value.agg (Lies.enc s).toArray) (hz : zv = .agg (Lies.enc z0).toArray) : Does P e w (.lookup mt x y false) (.agg (Lies.enc (o.getD z0)).toArray) := by
  have h := lkM (sz := sz) (by_ := by_) (zv := zv) (mt := mt) (et := et) hx hm hy
  rw [hg] at h
  cases o with
  | none => subst hz; exact h
  | some s => exact h
theorem lkSO {α : Type} [Lies α] {sz by_ : Nat} {zv : Value} {z0 : α} [hu : Und P mt (.map t et)] [hi : Inf P et sz by_ zv] {k : K} {o : Option α} (hx : ev e x = .map (some m)) (hm : MpB P t B w m lb c) (hy : ev e y = KeyT.enc P t k) (hg : getB lb k = o.map fun s => Value.agg (Lies.enc s).toArray) (hz : zv = .agg (Lies.enc z0).toArray) : Does P e w (.lookup mt x y true) (.tuple #[.agg (Lies.enc (o.getD z0)).toArray, .bool (decide (o ≠ none))]) := by
  have h := lkO (sz := sz) (by_ := by_) (zv := zv) (mt := mt) (et := et) hx hm hy
  rw [hg] at h
  cases o with
  | none => subst hz; simpa using h
  | some s => simpa using h
end
section
variable {α : Type} [Lies α] {w : World} {B c : Nat} {T : TypeId} {a : Option Addr} {l : List α}
theorem Own.take (h : Own B w T a c l) (i : Nat) : Own B w T a c (l.take i) := by
  rcases h.2 with ⟨h1, h2⟩ | ⟨g, cap, cur, h1, hB, hg, hle, hmx, hsz, htk⟩
  · injection h1 with e1 e2 e3
    have : l = [] := List.eq_nil_of_length_eq_zero h2
    subst this
    exact ⟨by simp, .inl ⟨by rw [e1, e3]; simp, by simp⟩⟩
  · injection h1 with e1 e2 e3
    refine ⟨flatMap_length Lies.len _, .inr ⟨g, cap, cur, by rw [e1, e3], hB, hg, ?_, hmx, hsz, ?_⟩⟩
    · rw [List.length_take]; omega
    · rw [flatMap_take Lies.len, ← htk, List.take_take, List.length_take]
      congr 1
      rcases Nat.le_total i l.length with h | h
      · rw [Nat.min_eq_left h, Nat.min_eq_left (Nat.mul_le_mul_right _ h)]
      · rw [Nat.min_eq_right h, Nat.min_eq_right (Nat.mul_le_mul_right _ h)]
end
section
variable {P : Program} {n : Nat} {ops : Array Oper} {l : List Oper} {Kk : Env → World → Prop} {el : List (Nat × Value)} {b : Env} {w : World} {ty : TypeId} {pos : String} {after : Array Edge} {x : Operand} {t elem : TypeId}
/-- clear(s[i:]) of an owned row of single cells -/
theorem run_clearOwn {α : Type} [Lies α] {by_ : Nat} {zv : Value} [hu : Und P t (.slice elem)] [hi : Inf P elem 1 by_ zv] {B c i : Nat} {a : Option Addr} {r : List α} (hz : zv.cells = #[zv]) (hz1 : zv.oneCell' = true) (hs : Lies.sz α = 1) (hown : Own B w elem a c r) (hir : i ≤ r.length) :
    ∃ w', (Builtin.clear_ #[t] ty #[.slice (restA a c i 1) (r.length - i) (c - i)]).run P w = .ok (.tuple #[]) w' ∧ Upd (inBlock a) w w' ∧ Own B w' elem a c (r.take i) := by
  rcases Nat.eq_or_lt_of_le hir with he | hlt
  · refine ⟨w, ?_, Upd.refl _ w, hown.take i⟩
    have : r.length - i = 0 := by omega
    rw [this]
    cases restA a c i 1 <;> simp [Builtin.clear_, run_und hu.h]
  · rcases hown.2 with ⟨h1, h2⟩ | ⟨g, cap, cur, h1, hB, hg, hle, hmx, hsz, htk⟩
    · omega
    · injection h1 with e1 e2 e3
      subst e1
      subst e3
      obtain ⟨k, hk⟩ : ∃ k, r.length - i = k + 1 := ⟨r.length - i - 1, by omega⟩
      have hr : restA (some (⟨g, 0, none⟩ : Addr)) c i 1 = some ⟨g, i, none⟩ := by
        unfold restA
        rw [if_neg (by omega)]
        simp [addr_add]
      rw [hs, Nat.mul_one] at hsz
      have hzc : (Builtin.zeroCells zv.cells (k + 1)).toList = List.replicate (k + 1) zv := by
        apply List.ext_getElem
        · simp [Builtin.zeroCells, hz]
        · intro j h3 h4
          simp [Builtin.zeroCells, hz]
          simp [Nat.mod_one]
      obtain ⟨inf, f1, f2, f3, f4⟩ := hi.h
      have hst := run_storeCells_at P g i elem (List.replicate (k + 1) zv) 0 cur w hg (by simp; omega) (fun v hv => by rw [List.eq_of_mem_replicate hv]; exact hz1)
      refine ⟨w.setRow g (cur.toList.take (i + 0) ++ List.replicate (k + 1) zv ++ cur.toList.drop (i + 0 + (List.replicate (k + 1) zv).length)).toArray, ?_, ⟨rfl, rfl, rfl, dle.refl _, by simp, fun q hq hx => setRow_other w g q _ (fun e => hx ⟨_, rfl, e.symm⟩)⟩, ?_⟩
      · rw [hk, hr]
        simp only [Builtin.clear_]
        simp [zeroValue, typeInfo, f1, f4, hzc, hst, run_und hu.h]
      · refine ⟨flatMap_length Lies.len _, .inr ⟨g, c, _, by simp, hB, setRow_heap w g cur _ elem _ hg, by rw [List.length_take]; omega, hmx, ?_, ?_⟩⟩
        · simp [hs]; omega
        · rw [flatMap_take Lies.len, ← htk, hs]
          simp only [Nat.mul_one, Nat.add_zero, List.length_take, List.take_take]
          rw [List.append_assoc, List.take_append]
          have h5 : min i r.length - (List.take i cur.toList).length = 0 := by rw [List.length_take]; simp; omega
          rw [h5]
          simp [List.take_take]
theorem RL.clearOwn {α : Type} [Lies α] {by_ : Nat} {zv : Value} [hu : Und P t (.slice elem)] [hi : Inf P elem 1 by_ zv] {B c i m c2 : Nat} {a a2 : Option Addr} {r : List α} (hx : ev (look el b) x = .slice a2 m c2) (ha : a2 = restA a c i 1) (hm : m = r.length - i) (hc : c2 = c - i) (hz : zv.cells = #[zv]) (hz1 : zv.oneCell' = true) (hs : Lies.sz α = 1) (hown : Own B w elem a c r) (hir : i ≤ r.length)
    (k : ∀ w', Upd (inBlock a) w w' → Own B w' elem a c (r.take i) → RL P n ops l Kk (look el b) w') :
    RL P n ops (⟨none, .call { callee := .builtin .clear, args := #[x], argTypes := #[t] }, ty, pos, after, none⟩ :: l) Kk (look el b) w := by
  subst ha hm hc
  obtain ⟨w', hr, h1, h2⟩ := run_clearOwn (P := P) (t := t) (ty := ty) hz hz1 hs hown hir
  refine RL.val' (w' := w') (v := .tuple #[]) (fun _ _ => wanted_none rfl _) rfl ?_ (k w' h1 h2)
  simp [execOp, resolve, invoke, builtin, hx, hr]
end
end Go.Eng
