/-
  Ranges over texts.
-/
import Derived.Test.YtbggmjnhfacjpaaAl
import Derived.Laws.RangeString
import Derived.Laws.RangeAny
set_option linter.unusedVariables false
namespace Go.Eng
open Go Go.RowKit

/-- where an iterator over s stands behind a step at pos -/
def nextPos (s : ByteArray) (pos : Nat) : Nat := if pos < s.size then pos + (Utf8.decode s pos).2 else pos
def stepV (s : ByteArray) (pos : Nat) : Value := if pos < s.size then .tuple #[.bool true, .int .i64 (pos : Int), .int .i32 ((Utf8.decode s pos).1 : Int)] else .tuple #[.bool false]
section
variable {P : Program} {n : Nat} {ops : Array Oper} {l : List Oper} {Kk : Env → World → Prop} {el : List (Nat × Value)} {b e : Env} {w : World} {dt : Nat} {op : Op} {ty : TypeId} {pos_ : String} {after : Array Edge} {x : Operand}
theorem RL.rangeS {t : TypeId} {s : ByteArray} [hu : Und P t .string] (hx : ev (look el b) x = .string s) (hd : Nat.blt dt n = true)
    (k : ∀ w' i, i = w.heap.size → Ext w w' → w'.heap[i]? = some (.stringIter s 0) → RL P n ops l Kk (look ((dt, .pointer (some ⟨i, 0, none⟩)) :: el) b) w') :
    RL P n ops (⟨some dt, .range t x, ty, pos_, after, none⟩ :: l) Kk (look el b) w := by
  refine RL.val' (w' := w.alloc (.stringIter s 0)) (v := .pointer (some ⟨w.heap.size, 0, none⟩)) (fun _ _ => wanted_none rfl _) hd ?_ (k _ _ rfl (Ext.alloc _ _) (heap_alloc_new w _))
  simp [execOp, hx, Instr.range, run_und hu.h, newObj, Sem.run]
theorem run_getIt {m : Nat} {s : ByteArray} {p : Nat} (h : w.heap[m]? = some (.stringIter s p)) : (getObj m).run P w = .ok (.stringIter s p) w := by
  simp [getObj, Sem.run, h]
theorem run_setIt {m : Nat} {s s' : ByteArray} {p p' : Nat} (h : w.heap[m]? = some (.stringIter s p)) : (setObj m (.stringIter s' p')).run P w = .ok () (World.putObj w m (.stringIter s' p')) := by
  simp [setObj, Sem.run, h]; rfl
theorem RL.nextS {s : ByteArray} {p i : Nat} (hx : ev (look el b) x = .pointer (some ⟨i, 0, none⟩)) (hi : w.heap[i]? = some (.stringIter s p)) (hd : Nat.blt dt n = true)
    (k : ∀ w', Upd (· = i) w w' → w'.heap[i]? = some (.stringIter s (nextPos s p)) → RL P n ops l Kk (look ((dt, stepV s p) :: el) b) w') :
    RL P n ops (⟨some dt, .next x true, ty, pos_, after, none⟩ :: l) Kk (look el b) w := by
  by_cases h : p < s.size
  · refine RL.val' (w' := World.putObj w i (.stringIter s (p + (Utf8.decode s p).2))) (v := stepV s p) (fun _ _ => wanted_none rfl _) hd ?_ (k _ (Upd.putObj _ _ _) (by rw [putObj_at hi]; simp [nextPos, h]))
    simp only [execOp, hx, Instr.next]
    simp [run_getIt hi, run_setIt hi, h, stepV, goInt]
  · refine RL.val' (w' := w) (v := stepV s p) (fun _ _ => wanted_none rfl _) hd ?_ (k _ (Upd.refl _ _) (by rw [hi]; simp [nextPos, h]))
    simp only [execOp, hx, Instr.next]
    simp [run_getIt hi, h, stepV]
theorem ex0n {s : ByteArray} {p : Nat} (hx : ev e x = stepV s p) : Pure P e (.extract x 0) (.bool (decide (p < s.size))) := by
  intro w d ty pos after g
  by_cases h : p < s.size <;> simp [execOp, hx, stepV, h, Instr.extract]
theorem ex1n {s : ByteArray} {p : Nat} (hx : ev e x = stepV s p) (h : p < s.size) : Pure P e (.extract x 1) (.int .i64 (p : Int)) := by
  intro w d ty pos after g
  simp [execOp, hx, stepV, h, Instr.extract]
theorem ex2n {s : ByteArray} {p : Nat} (hx : ev e x = stepV s p) (h : p < s.size) : Pure P e (.extract x 2) (.int .i32 ((Utf8.decode s p).1 : Int)) := by
  intro w d ty pos after g
  simp [execOp, hx, stepV, h, Instr.extract]
end
attribute [irreducible] stepV
end Go.Eng
