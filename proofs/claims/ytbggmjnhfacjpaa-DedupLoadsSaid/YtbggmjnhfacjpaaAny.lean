/-
  Regions that draw their order and write: one walk, in an order of ours. What may be taken first is checked by the kernel.
-/
import Derived.Test.YtbggmjnhfacjpaaMap
set_option linter.unusedVariables false
namespace Go.Eng
open Go Go.RowKit

/-! ### what turns no block -/
def Mild {α : Type} : Sem α → Prop
  | .pure _ => True
  | .load _ _ k => ∀ v, Mild (k v)
  | .store _ _ _ _ => False
  | .new _ k => ∀ r, Mild (k r)
  | .shape _ k => ∀ s, Mild (k s)
  | .freeze _ _ _ => False
  | .frozen _ k => ∀ b, Mild (k b)
  | .getObj _ k => ∀ o, Mild (k o)
  | .setObj _ _ _ => False
  | .choose _ k => ∀ n, Mild (k n)
  | .sys _ _ => False
  | .program k => ∀ p, Mild (k p)
  | .mark _ k => Mild k
  | .halt _ => True

theorem Mild.bind {α β : Type} {f : α → Sem β} (hf : ∀ a, Mild (f a)) : ∀ {s : Sem α}, Mild s → Mild (s >>= f) := by
  intro s
  show Mild s → Mild (Sem.bind s f)
  induction s with
  | pure a => intro _; exact hf a
  | load m a k ih => intro h v; exact ih v (h v)
  | store m a v k ih => intro h; exact h.elim
  | new o k ih => intro h v; exact ih v (h v)
  | shape r k ih => intro h v; exact ih v (h v)
  | freeze a n k ih => intro h; exact h.elim
  | frozen a k ih => intro h v; exact ih v (h v)
  | getObj r k ih => intro h v; exact ih v (h v)
  | setObj r o k ih => intro h; exact h.elim
  | choose q k ih => intro h v; exact ih v (h v)
  | sys c k ih => intro h; exact h.elim
  | program k ih => intro h v; exact ih v (h v)
  | mark m k ih => intro h; exact ih h
  | halt x => intro _; trivial
theorem Mild.pure {α : Type} (a : α) : Mild (Pure.pure a : Sem α) := trivial
theorem Mild.ite {α : Type} {c : Prop} [Decidable c] {x y : Sem α} (hx : Mild x) (hy : Mild y) : Mild (if c then x else y) := by split <;> assumption
theorem Mild.run {α : Type} (P : Program) : ∀ {s : Sem α} {w : World} {a : α} {w' : World}, Mild s → s.run P w = .ok a w' → Ext w w' := by
  intro s
  induction s with
  | pure a => intro w a' w' _ h; simp only [Sem.run, Result.ok.injEq] at h; rw [← h.2]; exact Ext.refl _
  | load m a k ih =>
    intro w x w' hm h
    simp only [Sem.run] at h
    split at h
    · exact ih _ (hm _) h
    · split at h
      · exact ih _ (hm _) h
      · cases h
  | store m a v k ih => intro w x w' hm h; exact hm.elim
  | new o k ih => intro w x w' hm h; simp only [Sem.run] at h; exact (Ext.alloc w o).trans (ih _ (hm _) h)
  | shape r k ih => intro w x w' hm h; simp only [Sem.run] at h; exact ih _ (hm _) h
  | freeze a n k ih => intro w x w' hm h; exact hm.elim
  | frozen a k ih => intro w x w' hm h; simp only [Sem.run] at h; exact ih _ (hm _) h
  | getObj r k ih =>
    intro w x w' hm h
    simp only [Sem.run] at h
    split at h
    · cases h
    · exact ih _ (hm _) h
    · cases h
  | setObj r o k ih => intro w x w' hm h; exact hm.elim
  | choose q k ih =>
    intro w x w' hm h
    simp only [Sem.run] at h
    split at h
    · exact ih _ (hm _) h
    · exact (Ext.drew w).trans (ih _ (hm _) h)
  | sys c k ih => intro w x w' hm h; exact hm.elim
  | program k ih => intro w x w' hm h; simp only [Sem.run] at h; exact ih _ (hm _) h
  | mark m k ih => intro w x w' hm h; simp only [Sem.run] at h; exact ih hm h
  | halt x => intro w a w' _ h; simp [Sem.run] at h

theorem mild_stuck {α : Type} (s : String) : Mild (stuck s : Sem α) := trivial
theorem mild_unsupported {α : Type} (u : Unsupported) : Mild (unsupported u : Sem α) := trivial
theorem mild_goPanic {α : Type} (v : Value) : Mild (goPanic v : Sem α) := trivial
theorem mild_program : Mild program := fun _ => trivial
theorem Mild.map {α β : Type} {f : α → β} {s : Sem α} (h : Mild s) : Mild (f <$> s) := Mild.bind (f := fun a => Sem.pure (f a)) (fun _ => trivial) h
theorem mild_typeInfo (t : TypeId) : Mild (typeInfo t) := by
  unfold typeInfo
  repeat' (first
    | with_reducible exact Mild.pure _
    | with_reducible exact mild_stuck _
    | with_reducible exact mild_unsupported _
    | with_reducible exact mild_goPanic _
    | with_reducible exact mild_program
    | refine Mild.bind (fun _ => ?_) ?_
    | refine Mild.map ?_
    | split
    | dsimp only
    | exact trivial
    | intro _)
theorem mild_underlying (t : TypeId) : Mild (underlying t) := by
  unfold underlying
  repeat' (first
    | with_reducible exact Mild.pure _
    | with_reducible exact mild_stuck _
    | with_reducible exact mild_unsupported _
    | with_reducible exact mild_goPanic _
    | with_reducible exact mild_program
    | with_reducible exact mild_typeInfo _
    | refine Mild.bind (fun _ => ?_) ?_
    | refine Mild.map ?_
    | split
    | dsimp only
    | exact trivial
    | intro _)
theorem mild_sizeOf (t : TypeId) : Mild (sizeOf t) := by
  unfold sizeOf
  repeat' (first
    | with_reducible exact Mild.pure _
    | with_reducible exact mild_stuck _
    | with_reducible exact mild_unsupported _
    | with_reducible exact mild_goPanic _
    | with_reducible exact mild_program
    | with_reducible exact mild_typeInfo _
    | with_reducible exact mild_underlying _
    | refine Mild.bind (fun _ => ?_) ?_
    | refine Mild.map ?_
    | split
    | dsimp only
    | exact trivial
    | intro _)
theorem mild_zeroValue (t : TypeId) : Mild (zeroValue t) := by
  unfold zeroValue
  repeat' (first
    | with_reducible exact Mild.pure _
    | with_reducible exact mild_stuck _
    | with_reducible exact mild_unsupported _
    | with_reducible exact mild_goPanic _
    | with_reducible exact mild_program
    | with_reducible exact mild_typeInfo _
    | with_reducible exact mild_underlying _
    | with_reducible exact mild_sizeOf _
    | refine Mild.bind (fun _ => ?_) ?_
    | refine Mild.map ?_
    | split
    | dsimp only
    | exact trivial
    | intro _)
theorem mild_isAgg (t : TypeId) : Mild (isAgg t) := by
  unfold isAgg
  repeat' (first
    | with_reducible exact Mild.pure _
    | with_reducible exact mild_stuck _
    | with_reducible exact mild_unsupported _
    | with_reducible exact mild_goPanic _
    | with_reducible exact mild_program
    | with_reducible exact mild_typeInfo _
    | with_reducible exact mild_underlying _
    | with_reducible exact mild_sizeOf _
    | with_reducible exact mild_zeroValue _
    | refine Mild.bind (fun _ => ?_) ?_
    | refine Mild.map ?_
    | split
    | dsimp only
    | exact trivial
    | intro _)
theorem mild_load (a : Addr) (m : Mode) : Mild (load a m) := by
  unfold load
  repeat' (first
    | with_reducible exact Mild.pure _
    | with_reducible exact mild_stuck _
    | with_reducible exact mild_unsupported _
    | with_reducible exact mild_goPanic _
    | with_reducible exact mild_program
    | with_reducible exact mild_typeInfo _
    | with_reducible exact mild_underlying _
    | with_reducible exact mild_sizeOf _
    | with_reducible exact mild_zeroValue _
    | with_reducible exact mild_isAgg _
    | refine Mild.bind (fun _ => ?_) ?_
    | refine Mild.map ?_
    | split
    | dsimp only
    | exact trivial
    | intro _)
theorem mild_loadCellsFrom (a : Addr) : ∀ (n i : Nat) (acc : Array Value), Mild (loadCellsFrom a i n acc)
  | 0, _, _ => trivial
  | n + 1, i, acc => by
    unfold loadCellsFrom
    refine Mild.bind ?_ (mild_load _ _)
    intro v
    exact mild_loadCellsFrom a n (i + 1) _
theorem mild_loadCells (a : Addr) (n : Nat) : Mild (loadCells a n) := by
  unfold loadCells
  repeat' (first
    | with_reducible exact Mild.pure _
    | with_reducible exact mild_stuck _
    | with_reducible exact mild_unsupported _
    | with_reducible exact mild_goPanic _
    | with_reducible exact mild_program
    | with_reducible exact mild_typeInfo _
    | with_reducible exact mild_underlying _
    | with_reducible exact mild_sizeOf _
    | with_reducible exact mild_zeroValue _
    | with_reducible exact mild_isAgg _
    | with_reducible exact mild_load _ _
    | with_reducible exact mild_loadCellsFrom _ _ _ _
    | refine Mild.bind (fun _ => ?_) ?_
    | refine Mild.map ?_
    | split
    | dsimp only
    | exact trivial
    | intro _)
theorem mild_loadVar (t : TypeId) (a : Addr) : Mild (loadVar t a) := by
  unfold loadVar
  repeat' (first
    | with_reducible exact Mild.pure _
    | with_reducible exact mild_stuck _
    | with_reducible exact mild_unsupported _
    | with_reducible exact mild_goPanic _
    | with_reducible exact mild_program
    | with_reducible exact mild_typeInfo _
    | with_reducible exact mild_underlying _
    | with_reducible exact mild_sizeOf _
    | with_reducible exact mild_zeroValue _
    | with_reducible exact mild_isAgg _
    | with_reducible exact mild_load _ _
    | with_reducible exact mild_loadCellsFrom _ _ _ _
    | with_reducible exact mild_loadCells _ _
    | refine Mild.bind (fun _ => ?_) ?_
    | refine Mild.map ?_
    | split
    | dsimp only
    | exact trivial
    | intro _)
theorem mild_newRow (t : TypeId) (c : Array Value) : Mild (newRow t c) := by
  unfold newRow newObj
  repeat' (first
    | with_reducible exact Mild.pure _
    | with_reducible exact mild_stuck _
    | with_reducible exact mild_unsupported _
    | with_reducible exact mild_goPanic _
    | with_reducible exact mild_program
    | with_reducible exact mild_typeInfo _
    | with_reducible exact mild_underlying _
    | with_reducible exact mild_sizeOf _
    | with_reducible exact mild_zeroValue _
    | with_reducible exact mild_isAgg _
    | with_reducible exact mild_load _ _
    | with_reducible exact mild_loadCellsFrom _ _ _ _
    | with_reducible exact mild_loadCells _ _
    | with_reducible exact mild_loadVar _ _
    | refine Mild.bind (fun _ => ?_) ?_
    | refine Mild.map ?_
    | split
    | dsimp only
    | exact trivial
    | intro _)
theorem mild_newVar (t : TypeId) (v : Value) : Mild (newVar t v) := by
  unfold newVar
  repeat' (first
    | with_reducible exact Mild.pure _
    | with_reducible exact mild_stuck _
    | with_reducible exact mild_unsupported _
    | with_reducible exact mild_goPanic _
    | with_reducible exact mild_program
    | with_reducible exact mild_typeInfo _
    | with_reducible exact mild_underlying _
    | with_reducible exact mild_sizeOf _
    | with_reducible exact mild_zeroValue _
    | with_reducible exact mild_isAgg _
    | with_reducible exact mild_load _ _
    | with_reducible exact mild_loadCellsFrom _ _ _ _
    | with_reducible exact mild_loadCells _ _
    | with_reducible exact mild_loadVar _ _
    | with_reducible exact mild_newRow _ _
    | refine Mild.bind (fun _ => ?_) ?_
    | refine Mild.map ?_
    | split
    | dsimp only
    | exact trivial
    | intro _)
theorem mild_sureAddr (v : Value) : Mild (Instr.sureAddr v) := by
  unfold Instr.sureAddr
  repeat' (first
    | with_reducible exact Mild.pure _
    | with_reducible exact mild_stuck _
    | with_reducible exact mild_unsupported _
    | with_reducible exact mild_goPanic _
    | with_reducible exact mild_program
    | with_reducible exact mild_typeInfo _
    | with_reducible exact mild_underlying _
    | with_reducible exact mild_sizeOf _
    | with_reducible exact mild_zeroValue _
    | with_reducible exact mild_isAgg _
    | with_reducible exact mild_load _ _
    | with_reducible exact mild_loadCellsFrom _ _ _ _
    | with_reducible exact mild_loadCells _ _
    | with_reducible exact mild_loadVar _ _
    | with_reducible exact mild_newRow _ _
    | with_reducible exact mild_newVar _ _
    | refine Mild.bind (fun _ => ?_) ?_
    | refine Mild.map ?_
    | split
    | dsimp only
    | exact trivial
    | intro _)
theorem mild_shape (r : Nat) : Mild (shape r) := by
  unfold shape
  repeat' (first
    | with_reducible exact Mild.pure _
    | with_reducible exact mild_stuck _
    | with_reducible exact mild_unsupported _
    | with_reducible exact mild_goPanic _
    | with_reducible exact mild_program
    | with_reducible exact mild_typeInfo _
    | with_reducible exact mild_underlying _
    | with_reducible exact mild_sizeOf _
    | with_reducible exact mild_zeroValue _
    | with_reducible exact mild_isAgg _
    | with_reducible exact mild_load _ _
    | with_reducible exact mild_loadCellsFrom _ _ _ _
    | with_reducible exact mild_loadCells _ _
    | with_reducible exact mild_loadVar _ _
    | with_reducible exact mild_newRow _ _
    | with_reducible exact mild_newVar _ _
    | with_reducible exact mild_sureAddr _
    | refine Mild.bind (fun _ => ?_) ?_
    | refine Mild.map ?_
    | split
    | dsimp only
    | exact trivial
    | intro _)
theorem mild_getObj (r : Nat) : Mild (getObj r) := by
  unfold getObj
  repeat' (first
    | with_reducible exact Mild.pure _
    | with_reducible exact mild_stuck _
    | with_reducible exact mild_unsupported _
    | with_reducible exact mild_goPanic _
    | with_reducible exact mild_program
    | with_reducible exact mild_typeInfo _
    | with_reducible exact mild_underlying _
    | with_reducible exact mild_sizeOf _
    | with_reducible exact mild_zeroValue _
    | with_reducible exact mild_isAgg _
    | with_reducible exact mild_load _ _
    | with_reducible exact mild_loadCellsFrom _ _ _ _
    | with_reducible exact mild_loadCells _ _
    | with_reducible exact mild_loadVar _ _
    | with_reducible exact mild_newRow _ _
    | with_reducible exact mild_newVar _ _
    | with_reducible exact mild_sureAddr _
    | with_reducible exact mild_shape _
    | refine Mild.bind (fun _ => ?_) ?_
    | refine Mild.map ?_
    | split
    | dsimp only
    | exact trivial
    | intro _)
theorem mild_choose (q : Question) : Mild (choose q) := by
  unfold choose
  repeat' (first
    | with_reducible exact Mild.pure _
    | with_reducible exact mild_stuck _
    | with_reducible exact mild_unsupported _
    | with_reducible exact mild_goPanic _
    | with_reducible exact mild_program
    | with_reducible exact mild_typeInfo _
    | with_reducible exact mild_underlying _
    | with_reducible exact mild_sizeOf _
    | with_reducible exact mild_zeroValue _
    | with_reducible exact mild_isAgg _
    | with_reducible exact mild_load _ _
    | with_reducible exact mild_loadCellsFrom _ _ _ _
    | with_reducible exact mild_loadCells _ _
    | with_reducible exact mild_loadVar _ _
    | with_reducible exact mild_newRow _ _
    | with_reducible exact mild_newVar _ _
    | with_reducible exact mild_sureAddr _
    | with_reducible exact mild_shape _
    | with_reducible exact mild_getObj _
    | refine Mild.bind (fun _ => ?_) ?_
    | refine Mild.map ?_
    | split
    | dsimp only
    | exact trivial
    | intro _)
theorem mild_viewAt (r : Nat) : Mild (viewAt r) := by
  unfold viewAt
  repeat' (first
    | with_reducible exact Mild.pure _
    | with_reducible exact mild_stuck _
    | with_reducible exact mild_unsupported _
    | with_reducible exact mild_goPanic _
    | with_reducible exact mild_program
    | with_reducible exact mild_typeInfo _
    | with_reducible exact mild_underlying _
    | with_reducible exact mild_sizeOf _
    | with_reducible exact mild_zeroValue _
    | with_reducible exact mild_isAgg _
    | with_reducible exact mild_load _ _
    | with_reducible exact mild_loadCellsFrom _ _ _ _
    | with_reducible exact mild_loadCells _ _
    | with_reducible exact mild_loadVar _ _
    | with_reducible exact mild_newRow _ _
    | with_reducible exact mild_newVar _ _
    | with_reducible exact mild_sureAddr _
    | with_reducible exact mild_shape _
    | with_reducible exact mild_getObj _
    | with_reducible exact mild_choose _
    | refine Mild.bind (fun _ => ?_) ?_
    | refine Mild.map ?_
    | split
    | dsimp only
    | exact trivial
    | intro _)
theorem mild_noView (a : Addr) : Mild (noView a) := by
  unfold noView
  repeat' (first
    | with_reducible exact Mild.pure _
    | with_reducible exact mild_stuck _
    | with_reducible exact mild_unsupported _
    | with_reducible exact mild_goPanic _
    | with_reducible exact mild_program
    | with_reducible exact mild_typeInfo _
    | with_reducible exact mild_underlying _
    | with_reducible exact mild_sizeOf _
    | with_reducible exact mild_zeroValue _
    | with_reducible exact mild_isAgg _
    | with_reducible exact mild_load _ _
    | with_reducible exact mild_loadCellsFrom _ _ _ _
    | with_reducible exact mild_loadCells _ _
    | with_reducible exact mild_loadVar _ _
    | with_reducible exact mild_newRow _ _
    | with_reducible exact mild_newVar _ _
    | with_reducible exact mild_sureAddr _
    | with_reducible exact mild_shape _
    | with_reducible exact mild_getObj _
    | with_reducible exact mild_choose _
    | with_reducible exact mild_viewAt _
    | refine Mild.bind (fun _ => ?_) ?_
    | refine Mild.map ?_
    | split
    | dsimp only
    | exact trivial
    | intro _)
theorem mild_byteOf (a : Addr) : Mild (byteOf a) := by
  unfold byteOf
  repeat' (first
    | with_reducible exact Mild.pure _
    | with_reducible exact mild_stuck _
    | with_reducible exact mild_unsupported _
    | with_reducible exact mild_goPanic _
    | with_reducible exact mild_program
    | with_reducible exact mild_typeInfo _
    | with_reducible exact mild_underlying _
    | with_reducible exact mild_sizeOf _
    | with_reducible exact mild_zeroValue _
    | with_reducible exact mild_isAgg _
    | with_reducible exact mild_load _ _
    | with_reducible exact mild_loadCellsFrom _ _ _ _
    | with_reducible exact mild_loadCells _ _
    | with_reducible exact mild_loadVar _ _
    | with_reducible exact mild_newRow _ _
    | with_reducible exact mild_newVar _ _
    | with_reducible exact mild_sureAddr _
    | with_reducible exact mild_shape _
    | with_reducible exact mild_getObj _
    | with_reducible exact mild_choose _
    | with_reducible exact mild_viewAt _
    | with_reducible exact mild_noView _
    | refine Mild.bind (fun _ => ?_) ?_
    | refine Mild.map ?_
    | split
    | dsimp only
    | exact trivial
    | intro _)
theorem mild_partAt (a : Addr) (n m : Nat) : Mild (partAt a n m) := by
  unfold partAt
  repeat' (first
    | with_reducible exact Mild.pure _
    | with_reducible exact mild_stuck _
    | with_reducible exact mild_unsupported _
    | with_reducible exact mild_goPanic _
    | with_reducible exact mild_program
    | with_reducible exact mild_typeInfo _
    | with_reducible exact mild_underlying _
    | with_reducible exact mild_sizeOf _
    | with_reducible exact mild_zeroValue _
    | with_reducible exact mild_isAgg _
    | with_reducible exact mild_load _ _
    | with_reducible exact mild_loadCellsFrom _ _ _ _
    | with_reducible exact mild_loadCells _ _
    | with_reducible exact mild_loadVar _ _
    | with_reducible exact mild_newRow _ _
    | with_reducible exact mild_newVar _ _
    | with_reducible exact mild_sureAddr _
    | with_reducible exact mild_shape _
    | with_reducible exact mild_getObj _
    | with_reducible exact mild_choose _
    | with_reducible exact mild_viewAt _
    | with_reducible exact mild_noView _
    | with_reducible exact mild_byteOf _
    | refine Mild.bind (fun _ => ?_) ?_
    | refine Mild.map ?_
    | split
    | dsimp only
    | exact trivial
    | intro _)
theorem mild_fieldPlace (a : Addr) (f : Field) : Mild (fieldPlace a f) := by
  unfold fieldPlace
  repeat' (first
    | with_reducible exact Mild.pure _
    | with_reducible exact mild_stuck _
    | with_reducible exact mild_unsupported _
    | with_reducible exact mild_goPanic _
    | with_reducible exact mild_program
    | with_reducible exact mild_typeInfo _
    | with_reducible exact mild_underlying _
    | with_reducible exact mild_sizeOf _
    | with_reducible exact mild_zeroValue _
    | with_reducible exact mild_isAgg _
    | with_reducible exact mild_load _ _
    | with_reducible exact mild_loadCellsFrom _ _ _ _
    | with_reducible exact mild_loadCells _ _
    | with_reducible exact mild_loadVar _ _
    | with_reducible exact mild_newRow _ _
    | with_reducible exact mild_newVar _ _
    | with_reducible exact mild_sureAddr _
    | with_reducible exact mild_shape _
    | with_reducible exact mild_getObj _
    | with_reducible exact mild_choose _
    | with_reducible exact mild_viewAt _
    | with_reducible exact mild_noView _
    | with_reducible exact mild_byteOf _
    | with_reducible exact mild_partAt _ _ _
    | refine Mild.bind (fun _ => ?_) ?_
    | refine Mild.map ?_
    | split
    | dsimp only
    | exact trivial
    | intro _)
theorem mild_fieldAt (s : TypeId) (v : Value) (f : Nat) : Mild (Instr.fieldAt s v f) := by
  unfold Instr.fieldAt
  repeat' (first
    | with_reducible exact Mild.pure _
    | with_reducible exact mild_stuck _
    | with_reducible exact mild_unsupported _
    | with_reducible exact mild_goPanic _
    | with_reducible exact mild_program
    | with_reducible exact mild_typeInfo _
    | with_reducible exact mild_underlying _
    | with_reducible exact mild_sizeOf _
    | with_reducible exact mild_zeroValue _
    | with_reducible exact mild_isAgg _
    | with_reducible exact mild_load _ _
    | with_reducible exact mild_loadCellsFrom _ _ _ _
    | with_reducible exact mild_loadCells _ _
    | with_reducible exact mild_loadVar _ _
    | with_reducible exact mild_newRow _ _
    | with_reducible exact mild_newVar _ _
    | with_reducible exact mild_sureAddr _
    | with_reducible exact mild_shape _
    | with_reducible exact mild_getObj _
    | with_reducible exact mild_choose _
    | with_reducible exact mild_viewAt _
    | with_reducible exact mild_noView _
    | with_reducible exact mild_byteOf _
    | with_reducible exact mild_partAt _ _ _
    | with_reducible exact mild_fieldPlace _ _
    | refine Mild.bind (fun _ => ?_) ?_
    | refine Mild.map ?_
    | split
    | dsimp only
    | exact trivial
    | intro _)
theorem mild_loadAt (t : TypeId) (v : Value) : Mild (Instr.loadAt t v) := by
  unfold Instr.loadAt
  repeat' (first
    | with_reducible exact Mild.pure _
    | with_reducible exact mild_stuck _
    | with_reducible exact mild_unsupported _
    | with_reducible exact mild_goPanic _
    | with_reducible exact mild_program
    | with_reducible exact mild_typeInfo _
    | with_reducible exact mild_underlying _
    | with_reducible exact mild_sizeOf _
    | with_reducible exact mild_zeroValue _
    | with_reducible exact mild_isAgg _
    | with_reducible exact mild_load _ _
    | with_reducible exact mild_loadCellsFrom _ _ _ _
    | with_reducible exact mild_loadCells _ _
    | with_reducible exact mild_loadVar _ _
    | with_reducible exact mild_newRow _ _
    | with_reducible exact mild_newVar _ _
    | with_reducible exact mild_sureAddr _
    | with_reducible exact mild_shape _
    | with_reducible exact mild_getObj _
    | with_reducible exact mild_choose _
    | with_reducible exact mild_viewAt _
    | with_reducible exact mild_noView _
    | with_reducible exact mild_byteOf _
    | with_reducible exact mild_partAt _ _ _
    | with_reducible exact mild_fieldPlace _ _
    | with_reducible exact mild_fieldAt _ _ _
    | refine Mild.bind (fun _ => ?_) ?_
    | refine Mild.map ?_
    | split
    | dsimp only
    | exact trivial
    | intro _)
theorem mild_elemOf (t : TypeId) : Mild (elemOf t) := by
  unfold elemOf
  repeat' (first
    | with_reducible exact Mild.pure _
    | with_reducible exact mild_stuck _
    | with_reducible exact mild_unsupported _
    | with_reducible exact mild_goPanic _
    | with_reducible exact mild_program
    | with_reducible exact mild_typeInfo _
    | with_reducible exact mild_underlying _
    | with_reducible exact mild_sizeOf _
    | with_reducible exact mild_zeroValue _
    | with_reducible exact mild_isAgg _
    | with_reducible exact mild_load _ _
    | with_reducible exact mild_loadCellsFrom _ _ _ _
    | with_reducible exact mild_loadCells _ _
    | with_reducible exact mild_loadVar _ _
    | with_reducible exact mild_newRow _ _
    | with_reducible exact mild_newVar _ _
    | with_reducible exact mild_sureAddr _
    | with_reducible exact mild_shape _
    | with_reducible exact mild_getObj _
    | with_reducible exact mild_choose _
    | with_reducible exact mild_viewAt _
    | with_reducible exact mild_noView _
    | with_reducible exact mild_byteOf _
    | with_reducible exact mild_partAt _ _ _
    | with_reducible exact mild_fieldPlace _ _
    | with_reducible exact mild_fieldAt _ _ _
    | with_reducible exact mild_loadAt _ _
    | refine Mild.bind (fun _ => ?_) ?_
    | refine Mild.map ?_
    | split
    | dsimp only
    | exact trivial
    | intro _)
theorem mild_runtimePanic {α : Type} (x : RuntimeError) : Mild (runtimePanic x : Sem α) := by
  unfold runtimePanic
  repeat' (first
    | with_reducible exact Mild.pure _
    | with_reducible exact mild_stuck _
    | with_reducible exact mild_unsupported _
    | with_reducible exact mild_goPanic _
    | with_reducible exact mild_program
    | with_reducible exact mild_typeInfo _
    | with_reducible exact mild_underlying _
    | with_reducible exact mild_sizeOf _
    | with_reducible exact mild_zeroValue _
    | with_reducible exact mild_isAgg _
    | with_reducible exact mild_load _ _
    | with_reducible exact mild_loadCellsFrom _ _ _ _
    | with_reducible exact mild_loadCells _ _
    | with_reducible exact mild_loadVar _ _
    | with_reducible exact mild_newRow _ _
    | with_reducible exact mild_newVar _ _
    | with_reducible exact mild_sureAddr _
    | with_reducible exact mild_shape _
    | with_reducible exact mild_getObj _
    | with_reducible exact mild_choose _
    | with_reducible exact mild_viewAt _
    | with_reducible exact mild_noView _
    | with_reducible exact mild_byteOf _
    | with_reducible exact mild_partAt _ _ _
    | with_reducible exact mild_fieldPlace _ _
    | with_reducible exact mild_fieldAt _ _ _
    | with_reducible exact mild_loadAt _ _
    | with_reducible exact mild_elemOf _
    | refine Mild.bind (fun _ => ?_) ?_
    | refine Mild.map ?_
    | split
    | dsimp only
    | exact trivial
    | intro _)
theorem mild_asIntOf (v : Value) : Mild (asIntOf v) := by
  unfold asIntOf
  repeat' (first
    | with_reducible exact Mild.pure _
    | with_reducible exact mild_stuck _
    | with_reducible exact mild_unsupported _
    | with_reducible exact mild_goPanic _
    | with_reducible exact mild_program
    | with_reducible exact mild_typeInfo _
    | with_reducible exact mild_underlying _
    | with_reducible exact mild_sizeOf _
    | with_reducible exact mild_zeroValue _
    | with_reducible exact mild_isAgg _
    | with_reducible exact mild_load _ _
    | with_reducible exact mild_loadCellsFrom _ _ _ _
    | with_reducible exact mild_loadCells _ _
    | with_reducible exact mild_loadVar _ _
    | with_reducible exact mild_newRow _ _
    | with_reducible exact mild_newVar _ _
    | with_reducible exact mild_sureAddr _
    | with_reducible exact mild_shape _
    | with_reducible exact mild_getObj _
    | with_reducible exact mild_choose _
    | with_reducible exact mild_viewAt _
    | with_reducible exact mild_noView _
    | with_reducible exact mild_byteOf _
    | with_reducible exact mild_partAt _ _ _
    | with_reducible exact mild_fieldPlace _ _
    | with_reducible exact mild_fieldAt _ _ _
    | with_reducible exact mild_loadAt _ _
    | with_reducible exact mild_elemOf _
    | with_reducible exact mild_runtimePanic _
    | refine Mild.bind (fun _ => ?_) ?_
    | refine Mild.map ?_
    | split
    | dsimp only
    | exact trivial
    | intro _)
theorem mild_boundsPanic {α : Type} (k : IntKind) (x y : Int) (c : BoundsCode) : Mild (boundsPanic k x y c : Sem α) := by
  unfold boundsPanic
  repeat' (first
    | with_reducible exact Mild.pure _
    | with_reducible exact mild_stuck _
    | with_reducible exact mild_unsupported _
    | with_reducible exact mild_goPanic _
    | with_reducible exact mild_program
    | with_reducible exact mild_typeInfo _
    | with_reducible exact mild_underlying _
    | with_reducible exact mild_sizeOf _
    | with_reducible exact mild_zeroValue _
    | with_reducible exact mild_isAgg _
    | with_reducible exact mild_load _ _
    | with_reducible exact mild_loadCellsFrom _ _ _ _
    | with_reducible exact mild_loadCells _ _
    | with_reducible exact mild_loadVar _ _
    | with_reducible exact mild_newRow _ _
    | with_reducible exact mild_newVar _ _
    | with_reducible exact mild_sureAddr _
    | with_reducible exact mild_shape _
    | with_reducible exact mild_getObj _
    | with_reducible exact mild_choose _
    | with_reducible exact mild_viewAt _
    | with_reducible exact mild_noView _
    | with_reducible exact mild_byteOf _
    | with_reducible exact mild_partAt _ _ _
    | with_reducible exact mild_fieldPlace _ _
    | with_reducible exact mild_fieldAt _ _ _
    | with_reducible exact mild_loadAt _ _
    | with_reducible exact mild_elemOf _
    | with_reducible exact mild_runtimePanic _
    | with_reducible exact mild_asIntOf _
    | refine Mild.bind (fun _ => ?_) ?_
    | refine Mild.map ?_
    | split
    | dsimp only
    | exact trivial
    | intro _)
theorem mild_indexAt (t : TypeId) (x i : Value) : Mild (Instr.indexAt t x i) := by
  unfold Instr.indexAt
  repeat' (first
    | with_reducible exact Mild.pure _
    | with_reducible exact mild_stuck _
    | with_reducible exact mild_unsupported _
    | with_reducible exact mild_goPanic _
    | with_reducible exact mild_program
    | with_reducible exact mild_typeInfo _
    | with_reducible exact mild_underlying _
    | with_reducible exact mild_sizeOf _
    | with_reducible exact mild_zeroValue _
    | with_reducible exact mild_isAgg _
    | with_reducible exact mild_load _ _
    | with_reducible exact mild_loadCellsFrom _ _ _ _
    | with_reducible exact mild_loadCells _ _
    | with_reducible exact mild_loadVar _ _
    | with_reducible exact mild_newRow _ _
    | with_reducible exact mild_newVar _ _
    | with_reducible exact mild_sureAddr _
    | with_reducible exact mild_shape _
    | with_reducible exact mild_getObj _
    | with_reducible exact mild_choose _
    | with_reducible exact mild_viewAt _
    | with_reducible exact mild_noView _
    | with_reducible exact mild_byteOf _
    | with_reducible exact mild_partAt _ _ _
    | with_reducible exact mild_fieldPlace _ _
    | with_reducible exact mild_fieldAt _ _ _
    | with_reducible exact mild_loadAt _ _
    | with_reducible exact mild_elemOf _
    | with_reducible exact mild_runtimePanic _
    | with_reducible exact mild_asIntOf _
    | with_reducible exact mild_boundsPanic _ _ _ _
    | refine Mild.bind (fun _ => ?_) ?_
    | refine Mild.map ?_
    | split
    | dsimp only
    | exact trivial
    | intro _)
theorem mild_part (t : TypeId) (cs : Array Value) (o : Nat) : Mild (part t cs o) := by
  unfold part
  repeat' (first
    | with_reducible exact Mild.pure _
    | with_reducible exact mild_stuck _
    | with_reducible exact mild_unsupported _
    | with_reducible exact mild_goPanic _
    | with_reducible exact mild_program
    | with_reducible exact mild_typeInfo _
    | with_reducible exact mild_underlying _
    | with_reducible exact mild_sizeOf _
    | with_reducible exact mild_zeroValue _
    | with_reducible exact mild_isAgg _
    | with_reducible exact mild_load _ _
    | with_reducible exact mild_loadCellsFrom _ _ _ _
    | with_reducible exact mild_loadCells _ _
    | with_reducible exact mild_loadVar _ _
    | with_reducible exact mild_newRow _ _
    | with_reducible exact mild_newVar _ _
    | with_reducible exact mild_sureAddr _
    | with_reducible exact mild_shape _
    | with_reducible exact mild_getObj _
    | with_reducible exact mild_choose _
    | with_reducible exact mild_viewAt _
    | with_reducible exact mild_noView _
    | with_reducible exact mild_byteOf _
    | with_reducible exact mild_partAt _ _ _
    | with_reducible exact mild_fieldPlace _ _
    | with_reducible exact mild_fieldAt _ _ _
    | with_reducible exact mild_loadAt _ _
    | with_reducible exact mild_elemOf _
    | with_reducible exact mild_runtimePanic _
    | with_reducible exact mild_asIntOf _
    | with_reducible exact mild_boundsPanic _ _ _ _
    | with_reducible exact mild_indexAt _ _ _
    | refine Mild.bind (fun _ => ?_) ?_
    | refine Mild.map ?_
    | split
    | dsimp only
    | exact trivial
    | intro _)
theorem mild_index (t : TypeId) (x i : Value) : Mild (Instr.index t x i) := by
  unfold Instr.index
  repeat' (first
    | with_reducible exact Mild.pure _
    | with_reducible exact mild_stuck _
    | with_reducible exact mild_unsupported _
    | with_reducible exact mild_goPanic _
    | with_reducible exact mild_program
    | with_reducible exact mild_typeInfo _
    | with_reducible exact mild_underlying _
    | with_reducible exact mild_sizeOf _
    | with_reducible exact mild_zeroValue _
    | with_reducible exact mild_isAgg _
    | with_reducible exact mild_load _ _
    | with_reducible exact mild_loadCellsFrom _ _ _ _
    | with_reducible exact mild_loadCells _ _
    | with_reducible exact mild_loadVar _ _
    | with_reducible exact mild_newRow _ _
    | with_reducible exact mild_newVar _ _
    | with_reducible exact mild_sureAddr _
    | with_reducible exact mild_shape _
    | with_reducible exact mild_getObj _
    | with_reducible exact mild_choose _
    | with_reducible exact mild_viewAt _
    | with_reducible exact mild_noView _
    | with_reducible exact mild_byteOf _
    | with_reducible exact mild_partAt _ _ _
    | with_reducible exact mild_fieldPlace _ _
    | with_reducible exact mild_fieldAt _ _ _
    | with_reducible exact mild_loadAt _ _
    | with_reducible exact mild_elemOf _
    | with_reducible exact mild_runtimePanic _
    | with_reducible exact mild_asIntOf _
    | with_reducible exact mild_boundsPanic _ _ _ _
    | with_reducible exact mild_indexAt _ _ _
    | with_reducible exact mild_part _ _ _
    | refine Mild.bind (fun _ => ?_) ?_
    | refine Mild.map ?_
    | split
    | dsimp only
    | exact trivial
    | intro _)
theorem mild_extract (t : Value) (i : Nat) : Mild (Instr.extract t i) := by
  unfold Instr.extract
  repeat' (first
    | with_reducible exact Mild.pure _
    | with_reducible exact mild_stuck _
    | with_reducible exact mild_unsupported _
    | with_reducible exact mild_goPanic _
    | with_reducible exact mild_program
    | with_reducible exact mild_typeInfo _
    | with_reducible exact mild_underlying _
    | with_reducible exact mild_sizeOf _
    | with_reducible exact mild_zeroValue _
    | with_reducible exact mild_isAgg _
    | with_reducible exact mild_load _ _
    | with_reducible exact mild_loadCellsFrom _ _ _ _
    | with_reducible exact mild_loadCells _ _
    | with_reducible exact mild_loadVar _ _
    | with_reducible exact mild_newRow _ _
    | with_reducible exact mild_newVar _ _
    | with_reducible exact mild_sureAddr _
    | with_reducible exact mild_shape _
    | with_reducible exact mild_getObj _
    | with_reducible exact mild_choose _
    | with_reducible exact mild_viewAt _
    | with_reducible exact mild_noView _
    | with_reducible exact mild_byteOf _
    | with_reducible exact mild_partAt _ _ _
    | with_reducible exact mild_fieldPlace _ _
    | with_reducible exact mild_fieldAt _ _ _
    | with_reducible exact mild_loadAt _ _
    | with_reducible exact mild_elemOf _
    | with_reducible exact mild_runtimePanic _
    | with_reducible exact mild_asIntOf _
    | with_reducible exact mild_boundsPanic _ _ _ _
    | with_reducible exact mild_indexAt _ _ _
    | with_reducible exact mild_part _ _ _
    | with_reducible exact mild_index _ _ _
    | refine Mild.bind (fun _ => ?_) ?_
    | refine Mild.map ?_
    | split
    | dsimp only
    | exact trivial
    | intro _)
theorem mild_alloc (t : TypeId) : Mild (Instr.alloc t true (.tuple #[])) := by
  unfold Instr.alloc
  repeat' (first
    | with_reducible exact Mild.pure _
    | with_reducible exact mild_stuck _
    | with_reducible exact mild_unsupported _
    | with_reducible exact mild_goPanic _
    | with_reducible exact mild_program
    | with_reducible exact mild_typeInfo _
    | with_reducible exact mild_underlying _
    | with_reducible exact mild_sizeOf _
    | with_reducible exact mild_zeroValue _
    | with_reducible exact mild_isAgg _
    | with_reducible exact mild_load _ _
    | with_reducible exact mild_loadCellsFrom _ _ _ _
    | with_reducible exact mild_loadCells _ _
    | with_reducible exact mild_loadVar _ _
    | with_reducible exact mild_newRow _ _
    | with_reducible exact mild_newVar _ _
    | with_reducible exact mild_sureAddr _
    | with_reducible exact mild_shape _
    | with_reducible exact mild_getObj _
    | with_reducible exact mild_choose _
    | with_reducible exact mild_viewAt _
    | with_reducible exact mild_noView _
    | with_reducible exact mild_byteOf _
    | with_reducible exact mild_partAt _ _ _
    | with_reducible exact mild_fieldPlace _ _
    | with_reducible exact mild_fieldAt _ _ _
    | with_reducible exact mild_loadAt _ _
    | with_reducible exact mild_elemOf _
    | with_reducible exact mild_runtimePanic _
    | with_reducible exact mild_asIntOf _
    | with_reducible exact mild_boundsPanic _ _ _ _
    | with_reducible exact mild_indexAt _ _ _
    | with_reducible exact mild_part _ _ _
    | with_reducible exact mild_index _ _ _
    | with_reducible exact mild_extract _ _
    | refine Mild.bind (fun _ => ?_) ?_
    | refine Mild.map ?_
    | split
    | dsimp only
    | exact trivial
    | intro _)
theorem mild_box (t : TypeId) (v : Value) : Mild (Instr.box t v) := by
  unfold Instr.box
  repeat' (first
    | with_reducible exact Mild.pure _
    | with_reducible exact mild_stuck _
    | with_reducible exact mild_unsupported _
    | with_reducible exact mild_goPanic _
    | with_reducible exact mild_program
    | with_reducible exact mild_typeInfo _
    | with_reducible exact mild_underlying _
    | with_reducible exact mild_sizeOf _
    | with_reducible exact mild_zeroValue _
    | with_reducible exact mild_isAgg _
    | with_reducible exact mild_load _ _
    | with_reducible exact mild_loadCellsFrom _ _ _ _
    | with_reducible exact mild_loadCells _ _
    | with_reducible exact mild_loadVar _ _
    | with_reducible exact mild_newRow _ _
    | with_reducible exact mild_newVar _ _
    | with_reducible exact mild_sureAddr _
    | with_reducible exact mild_shape _
    | with_reducible exact mild_getObj _
    | with_reducible exact mild_choose _
    | with_reducible exact mild_viewAt _
    | with_reducible exact mild_noView _
    | with_reducible exact mild_byteOf _
    | with_reducible exact mild_partAt _ _ _
    | with_reducible exact mild_fieldPlace _ _
    | with_reducible exact mild_fieldAt _ _ _
    | with_reducible exact mild_loadAt _ _
    | with_reducible exact mild_elemOf _
    | with_reducible exact mild_runtimePanic _
    | with_reducible exact mild_asIntOf _
    | with_reducible exact mild_boundsPanic _ _ _ _
    | with_reducible exact mild_indexAt _ _ _
    | with_reducible exact mild_part _ _ _
    | with_reducible exact mild_index _ _ _
    | with_reducible exact mild_extract _ _
    | with_reducible exact mild_alloc _
    | refine Mild.bind (fun _ => ?_) ?_
    | refine Mild.map ?_
    | split
    | dsimp only
    | exact trivial
    | intro _)
theorem mild_buildSlice (t : TypeId) (n : Nat) (ps : Array (Nat × Value)) : Mild (Instr.buildSlice t n ps) := by
  unfold Instr.buildSlice
  repeat' (first
    | with_reducible exact Mild.pure _
    | with_reducible exact mild_stuck _
    | with_reducible exact mild_unsupported _
    | with_reducible exact mild_goPanic _
    | with_reducible exact mild_program
    | with_reducible exact mild_typeInfo _
    | with_reducible exact mild_underlying _
    | with_reducible exact mild_sizeOf _
    | with_reducible exact mild_zeroValue _
    | with_reducible exact mild_isAgg _
    | with_reducible exact mild_load _ _
    | with_reducible exact mild_loadCellsFrom _ _ _ _
    | with_reducible exact mild_loadCells _ _
    | with_reducible exact mild_loadVar _ _
    | with_reducible exact mild_newRow _ _
    | with_reducible exact mild_newVar _ _
    | with_reducible exact mild_sureAddr _
    | with_reducible exact mild_shape _
    | with_reducible exact mild_getObj _
    | with_reducible exact mild_choose _
    | with_reducible exact mild_viewAt _
    | with_reducible exact mild_noView _
    | with_reducible exact mild_byteOf _
    | with_reducible exact mild_partAt _ _ _
    | with_reducible exact mild_fieldPlace _ _
    | with_reducible exact mild_fieldAt _ _ _
    | with_reducible exact mild_loadAt _ _
    | with_reducible exact mild_elemOf _
    | with_reducible exact mild_runtimePanic _
    | with_reducible exact mild_asIntOf _
    | with_reducible exact mild_boundsPanic _ _ _ _
    | with_reducible exact mild_indexAt _ _ _
    | with_reducible exact mild_part _ _ _
    | with_reducible exact mild_index _ _ _
    | with_reducible exact mild_extract _ _
    | with_reducible exact mild_alloc _
    | with_reducible exact mild_box _ _
    | refine Mild.bind (fun _ => ?_) ?_
    | refine Mild.map ?_
    | split
    | dsimp only
    | exact trivial
    | intro _)
theorem mild_mapM {α β : Type} (f : α → Sem β) (hf : ∀ a, Mild (f a)) : ∀ l : List α, Mild (l.mapM f)
  | [] => by rw [List.mapM_nil]; trivial
  | a :: l => by
    rw [List.mapM_cons]
    refine Mild.bind ?_ (hf a)
    intro b
    refine Mild.bind ?_ (mild_mapM f hf l)
    intro _
    trivial
theorem mild_build (t : TypeId) (ps : Array (Nat × Value)) : Mild (Instr.build t ps) := by
  unfold Instr.build
  refine Mild.bind ?_ (mild_zeroValue t)
  intro z
  refine Mild.bind ?_ (mild_underlying t)
  intro d
  split
  · refine Mild.bind ?_ ?_
    · intro p; split <;> trivial
    · rw [Array.mapM_eq_mapM_toList]
      refine Mild.map ?_
      refine mild_mapM _ ?_ _
      intro f
      refine Mild.bind ?_ (mild_sizeOf _)
      intro _; trivial
  · refine Mild.bind ?_ (mild_sizeOf _)
    intro s; split <;> trivial
  · trivial
theorem mild_len (at_ : Array TypeId) (ty : TypeId) (args : Array Value) : Mild (Builtin.len_ at_ ty args) := by
  unfold Builtin.len_
  repeat' (first
    | with_reducible exact Mild.pure _
    | with_reducible exact mild_stuck _
    | with_reducible exact mild_unsupported _
    | with_reducible exact mild_goPanic _
    | with_reducible exact mild_program
    | with_reducible exact mild_typeInfo _
    | with_reducible exact mild_underlying _
    | with_reducible exact mild_sizeOf _
    | with_reducible exact mild_zeroValue _
    | with_reducible exact mild_isAgg _
    | with_reducible exact mild_load _ _
    | with_reducible exact mild_loadCellsFrom _ _ _ _
    | with_reducible exact mild_loadCells _ _
    | with_reducible exact mild_loadVar _ _
    | with_reducible exact mild_newRow _ _
    | with_reducible exact mild_newVar _ _
    | with_reducible exact mild_sureAddr _
    | with_reducible exact mild_shape _
    | with_reducible exact mild_getObj _
    | with_reducible exact mild_choose _
    | with_reducible exact mild_viewAt _
    | with_reducible exact mild_noView _
    | with_reducible exact mild_byteOf _
    | with_reducible exact mild_partAt _ _ _
    | with_reducible exact mild_fieldPlace _ _
    | with_reducible exact mild_fieldAt _ _ _
    | with_reducible exact mild_loadAt _ _
    | with_reducible exact mild_elemOf _
    | with_reducible exact mild_runtimePanic _
    | with_reducible exact mild_asIntOf _
    | with_reducible exact mild_boundsPanic _ _ _ _
    | with_reducible exact mild_indexAt _ _ _
    | with_reducible exact mild_part _ _ _
    | with_reducible exact mild_index _ _ _
    | with_reducible exact mild_extract _ _
    | with_reducible exact mild_alloc _
    | with_reducible exact mild_box _ _
    | with_reducible exact mild_buildSlice _ _ _
    | with_reducible exact mild_build _ _
    | refine Mild.bind (fun _ => ?_) ?_
    | refine Mild.map ?_
    | split
    | dsimp only
    | exact trivial
    | intro _)
theorem mild_asBool (v : Value) : Mild (asBool v) := by
  unfold asBool
  repeat' (first
    | with_reducible exact Mild.pure _
    | with_reducible exact mild_stuck _
    | with_reducible exact mild_unsupported _
    | with_reducible exact mild_goPanic _
    | with_reducible exact mild_program
    | with_reducible exact mild_typeInfo _
    | with_reducible exact mild_underlying _
    | with_reducible exact mild_sizeOf _
    | with_reducible exact mild_zeroValue _
    | with_reducible exact mild_isAgg _
    | with_reducible exact mild_load _ _
    | with_reducible exact mild_loadCellsFrom _ _ _ _
    | with_reducible exact mild_loadCells _ _
    | with_reducible exact mild_loadVar _ _
    | with_reducible exact mild_newRow _ _
    | with_reducible exact mild_newVar _ _
    | with_reducible exact mild_sureAddr _
    | with_reducible exact mild_shape _
    | with_reducible exact mild_getObj _
    | with_reducible exact mild_choose _
    | with_reducible exact mild_viewAt _
    | with_reducible exact mild_noView _
    | with_reducible exact mild_byteOf _
    | with_reducible exact mild_partAt _ _ _
    | with_reducible exact mild_fieldPlace _ _
    | with_reducible exact mild_fieldAt _ _ _
    | with_reducible exact mild_loadAt _ _
    | with_reducible exact mild_elemOf _
    | with_reducible exact mild_runtimePanic _
    | with_reducible exact mild_asIntOf _
    | with_reducible exact mild_boundsPanic _ _ _ _
    | with_reducible exact mild_indexAt _ _ _
    | with_reducible exact mild_part _ _ _
    | with_reducible exact mild_index _ _ _
    | with_reducible exact mild_extract _ _
    | with_reducible exact mild_alloc _
    | with_reducible exact mild_box _ _
    | with_reducible exact mild_buildSlice _ _ _
    | with_reducible exact mild_build _ _
    | with_reducible exact mild_len _ _ _
    | refine Mild.bind (fun _ => ?_) ?_
    | refine Mild.map ?_
    | split
    | dsimp only
    | exact trivial
    | intro _)
theorem mild_stringOp (o : BinOp) (x y : ByteArray) : Mild (Op.stringOp o x y) := by
  unfold Op.stringOp
  repeat' (first
    | with_reducible exact Mild.pure _
    | with_reducible exact mild_stuck _
    | with_reducible exact mild_unsupported _
    | with_reducible exact mild_goPanic _
    | with_reducible exact mild_program
    | with_reducible exact mild_typeInfo _
    | with_reducible exact mild_underlying _
    | with_reducible exact mild_sizeOf _
    | with_reducible exact mild_zeroValue _
    | with_reducible exact mild_isAgg _
    | with_reducible exact mild_load _ _
    | with_reducible exact mild_loadCellsFrom _ _ _ _
    | with_reducible exact mild_loadCells _ _
    | with_reducible exact mild_loadVar _ _
    | with_reducible exact mild_newRow _ _
    | with_reducible exact mild_newVar _ _
    | with_reducible exact mild_sureAddr _
    | with_reducible exact mild_shape _
    | with_reducible exact mild_getObj _
    | with_reducible exact mild_choose _
    | with_reducible exact mild_viewAt _
    | with_reducible exact mild_noView _
    | with_reducible exact mild_byteOf _
    | with_reducible exact mild_partAt _ _ _
    | with_reducible exact mild_fieldPlace _ _
    | with_reducible exact mild_fieldAt _ _ _
    | with_reducible exact mild_loadAt _ _
    | with_reducible exact mild_elemOf _
    | with_reducible exact mild_runtimePanic _
    | with_reducible exact mild_asIntOf _
    | with_reducible exact mild_boundsPanic _ _ _ _
    | with_reducible exact mild_indexAt _ _ _
    | with_reducible exact mild_part _ _ _
    | with_reducible exact mild_index _ _ _
    | with_reducible exact mild_extract _ _
    | with_reducible exact mild_alloc _
    | with_reducible exact mild_box _ _
    | with_reducible exact mild_buildSlice _ _ _
    | with_reducible exact mild_build _ _
    | with_reducible exact mild_len _ _ _
    | with_reducible exact mild_asBool _
    | refine Mild.bind (fun _ => ?_) ?_
    | refine Mild.map ?_
    | split
    | dsimp only
    | exact trivial
    | intro _)
theorem mild_intArith (o : BinOp) (k : IntKind) (x y : Int) : Mild (Op.intArith o k x y) := by
  unfold Op.intArith
  repeat' (first
    | with_reducible exact Mild.pure _
    | with_reducible exact mild_stuck _
    | with_reducible exact mild_unsupported _
    | with_reducible exact mild_goPanic _
    | with_reducible exact mild_program
    | with_reducible exact mild_typeInfo _
    | with_reducible exact mild_underlying _
    | with_reducible exact mild_sizeOf _
    | with_reducible exact mild_zeroValue _
    | with_reducible exact mild_isAgg _
    | with_reducible exact mild_load _ _
    | with_reducible exact mild_loadCellsFrom _ _ _ _
    | with_reducible exact mild_loadCells _ _
    | with_reducible exact mild_loadVar _ _
    | with_reducible exact mild_newRow _ _
    | with_reducible exact mild_newVar _ _
    | with_reducible exact mild_sureAddr _
    | with_reducible exact mild_shape _
    | with_reducible exact mild_getObj _
    | with_reducible exact mild_choose _
    | with_reducible exact mild_viewAt _
    | with_reducible exact mild_noView _
    | with_reducible exact mild_byteOf _
    | with_reducible exact mild_partAt _ _ _
    | with_reducible exact mild_fieldPlace _ _
    | with_reducible exact mild_fieldAt _ _ _
    | with_reducible exact mild_loadAt _ _
    | with_reducible exact mild_elemOf _
    | with_reducible exact mild_runtimePanic _
    | with_reducible exact mild_asIntOf _
    | with_reducible exact mild_boundsPanic _ _ _ _
    | with_reducible exact mild_indexAt _ _ _
    | with_reducible exact mild_part _ _ _
    | with_reducible exact mild_index _ _ _
    | with_reducible exact mild_extract _ _
    | with_reducible exact mild_alloc _
    | with_reducible exact mild_box _ _
    | with_reducible exact mild_buildSlice _ _ _
    | with_reducible exact mild_build _ _
    | with_reducible exact mild_len _ _ _
    | with_reducible exact mild_asBool _
    | with_reducible exact mild_stringOp _ _ _
    | refine Mild.bind (fun _ => ?_) ?_
    | refine Mild.map ?_
    | split
    | dsimp only
    | exact trivial
    | intro _)
theorem mild_intDiv (o : BinOp) (k : IntKind) (x y : Int) : Mild (Op.intDiv o k x y) := by
  unfold Op.intDiv
  repeat' (first
    | with_reducible exact Mild.pure _
    | with_reducible exact mild_stuck _
    | with_reducible exact mild_unsupported _
    | with_reducible exact mild_goPanic _
    | with_reducible exact mild_program
    | with_reducible exact mild_typeInfo _
    | with_reducible exact mild_underlying _
    | with_reducible exact mild_sizeOf _
    | with_reducible exact mild_zeroValue _
    | with_reducible exact mild_isAgg _
    | with_reducible exact mild_load _ _
    | with_reducible exact mild_loadCellsFrom _ _ _ _
    | with_reducible exact mild_loadCells _ _
    | with_reducible exact mild_loadVar _ _
    | with_reducible exact mild_newRow _ _
    | with_reducible exact mild_newVar _ _
    | with_reducible exact mild_sureAddr _
    | with_reducible exact mild_shape _
    | with_reducible exact mild_getObj _
    | with_reducible exact mild_choose _
    | with_reducible exact mild_viewAt _
    | with_reducible exact mild_noView _
    | with_reducible exact mild_byteOf _
    | with_reducible exact mild_partAt _ _ _
    | with_reducible exact mild_fieldPlace _ _
    | with_reducible exact mild_fieldAt _ _ _
    | with_reducible exact mild_loadAt _ _
    | with_reducible exact mild_elemOf _
    | with_reducible exact mild_runtimePanic _
    | with_reducible exact mild_asIntOf _
    | with_reducible exact mild_boundsPanic _ _ _ _
    | with_reducible exact mild_indexAt _ _ _
    | with_reducible exact mild_part _ _ _
    | with_reducible exact mild_index _ _ _
    | with_reducible exact mild_extract _ _
    | with_reducible exact mild_alloc _
    | with_reducible exact mild_box _ _
    | with_reducible exact mild_buildSlice _ _ _
    | with_reducible exact mild_build _ _
    | with_reducible exact mild_len _ _ _
    | with_reducible exact mild_asBool _
    | with_reducible exact mild_stringOp _ _ _
    | with_reducible exact mild_intArith _ _ _ _
    | refine Mild.bind (fun _ => ?_) ?_
    | refine Mild.map ?_
    | split
    | dsimp only
    | exact trivial
    | intro _)
theorem mild_intCmp (o : BinOp) (x y : Int) : Mild (Op.intCmp o x y) := by
  unfold Op.intCmp
  repeat' (first
    | with_reducible exact Mild.pure _
    | with_reducible exact mild_stuck _
    | with_reducible exact mild_unsupported _
    | with_reducible exact mild_goPanic _
    | with_reducible exact mild_program
    | with_reducible exact mild_typeInfo _
    | with_reducible exact mild_underlying _
    | with_reducible exact mild_sizeOf _
    | with_reducible exact mild_zeroValue _
    | with_reducible exact mild_isAgg _
    | with_reducible exact mild_load _ _
    | with_reducible exact mild_loadCellsFrom _ _ _ _
    | with_reducible exact mild_loadCells _ _
    | with_reducible exact mild_loadVar _ _
    | with_reducible exact mild_newRow _ _
    | with_reducible exact mild_newVar _ _
    | with_reducible exact mild_sureAddr _
    | with_reducible exact mild_shape _
    | with_reducible exact mild_getObj _
    | with_reducible exact mild_choose _
    | with_reducible exact mild_viewAt _
    | with_reducible exact mild_noView _
    | with_reducible exact mild_byteOf _
    | with_reducible exact mild_partAt _ _ _
    | with_reducible exact mild_fieldPlace _ _
    | with_reducible exact mild_fieldAt _ _ _
    | with_reducible exact mild_loadAt _ _
    | with_reducible exact mild_elemOf _
    | with_reducible exact mild_runtimePanic _
    | with_reducible exact mild_asIntOf _
    | with_reducible exact mild_boundsPanic _ _ _ _
    | with_reducible exact mild_indexAt _ _ _
    | with_reducible exact mild_part _ _ _
    | with_reducible exact mild_index _ _ _
    | with_reducible exact mild_extract _ _
    | with_reducible exact mild_alloc _
    | with_reducible exact mild_box _ _
    | with_reducible exact mild_buildSlice _ _ _
    | with_reducible exact mild_build _ _
    | with_reducible exact mild_len _ _ _
    | with_reducible exact mild_asBool _
    | with_reducible exact mild_stringOp _ _ _
    | with_reducible exact mild_intArith _ _ _ _
    | with_reducible exact mild_intDiv _ _ _ _
    | refine Mild.bind (fun _ => ?_) ?_
    | refine Mild.map ?_
    | split
    | dsimp only
    | exact trivial
    | intro _)
theorem mild_sliceBound (x : Value) (y : Nat) (c : BoundsCode) : Mild (Instr.sliceBound x y c) := by
  unfold Instr.sliceBound
  repeat' (first
    | with_reducible exact Mild.pure _
    | with_reducible exact mild_stuck _
    | with_reducible exact mild_unsupported _
    | with_reducible exact mild_goPanic _
    | with_reducible exact mild_program
    | with_reducible exact mild_typeInfo _
    | with_reducible exact mild_underlying _
    | with_reducible exact mild_sizeOf _
    | with_reducible exact mild_zeroValue _
    | with_reducible exact mild_isAgg _
    | with_reducible exact mild_load _ _
    | with_reducible exact mild_loadCellsFrom _ _ _ _
    | with_reducible exact mild_loadCells _ _
    | with_reducible exact mild_loadVar _ _
    | with_reducible exact mild_newRow _ _
    | with_reducible exact mild_newVar _ _
    | with_reducible exact mild_sureAddr _
    | with_reducible exact mild_shape _
    | with_reducible exact mild_getObj _
    | with_reducible exact mild_choose _
    | with_reducible exact mild_viewAt _
    | with_reducible exact mild_noView _
    | with_reducible exact mild_byteOf _
    | with_reducible exact mild_partAt _ _ _
    | with_reducible exact mild_fieldPlace _ _
    | with_reducible exact mild_fieldAt _ _ _
    | with_reducible exact mild_loadAt _ _
    | with_reducible exact mild_elemOf _
    | with_reducible exact mild_runtimePanic _
    | with_reducible exact mild_asIntOf _
    | with_reducible exact mild_boundsPanic _ _ _ _
    | with_reducible exact mild_indexAt _ _ _
    | with_reducible exact mild_part _ _ _
    | with_reducible exact mild_index _ _ _
    | with_reducible exact mild_extract _ _
    | with_reducible exact mild_alloc _
    | with_reducible exact mild_box _ _
    | with_reducible exact mild_buildSlice _ _ _
    | with_reducible exact mild_build _ _
    | with_reducible exact mild_len _ _ _
    | with_reducible exact mild_asBool _
    | with_reducible exact mild_stringOp _ _ _
    | with_reducible exact mild_intArith _ _ _ _
    | with_reducible exact mild_intDiv _ _ _ _
    | with_reducible exact mild_intCmp _ _ _
    | refine Mild.bind (fun _ => ?_) ?_
    | refine Mild.map ?_
    | split
    | dsimp only
    | exact trivial
    | intro _)
theorem mild_sliceBounds (b : Bool) (l c : Nat) (x y z : Option Value) : Mild (Instr.sliceBounds b l c x y z) := by
  unfold Instr.sliceBounds
  cases z <;> cases y <;> cases x
  all_goals repeat' (first
    | with_reducible exact Mild.pure _
    | with_reducible exact mild_stuck _
    | with_reducible exact mild_sliceBound _ _ _
    | refine Mild.bind (fun _ => ?_) ?_
    | dsimp only)
theorem mild_asAddr (v : Value) : Mild (asAddr v) := by
  unfold asAddr
  repeat' (first
    | with_reducible exact Mild.pure _
    | with_reducible exact mild_stuck _
    | with_reducible exact mild_unsupported _
    | with_reducible exact mild_goPanic _
    | with_reducible exact mild_program
    | with_reducible exact mild_typeInfo _
    | with_reducible exact mild_underlying _
    | with_reducible exact mild_sizeOf _
    | with_reducible exact mild_zeroValue _
    | with_reducible exact mild_isAgg _
    | with_reducible exact mild_load _ _
    | with_reducible exact mild_loadCellsFrom _ _ _ _
    | with_reducible exact mild_loadCells _ _
    | with_reducible exact mild_loadVar _ _
    | with_reducible exact mild_newRow _ _
    | with_reducible exact mild_newVar _ _
    | with_reducible exact mild_sureAddr _
    | with_reducible exact mild_shape _
    | with_reducible exact mild_getObj _
    | with_reducible exact mild_choose _
    | with_reducible exact mild_viewAt _
    | with_reducible exact mild_noView _
    | with_reducible exact mild_byteOf _
    | with_reducible exact mild_partAt _ _ _
    | with_reducible exact mild_fieldPlace _ _
    | with_reducible exact mild_fieldAt _ _ _
    | with_reducible exact mild_loadAt _ _
    | with_reducible exact mild_elemOf _
    | with_reducible exact mild_runtimePanic _
    | with_reducible exact mild_asIntOf _
    | with_reducible exact mild_boundsPanic _ _ _ _
    | with_reducible exact mild_indexAt _ _ _
    | with_reducible exact mild_part _ _ _
    | with_reducible exact mild_index _ _ _
    | with_reducible exact mild_extract _ _
    | with_reducible exact mild_alloc _
    | with_reducible exact mild_box _ _
    | with_reducible exact mild_buildSlice _ _ _
    | with_reducible exact mild_build _ _
    | with_reducible exact mild_len _ _ _
    | with_reducible exact mild_asBool _
    | with_reducible exact mild_stringOp _ _ _
    | with_reducible exact mild_intArith _ _ _ _
    | with_reducible exact mild_intDiv _ _ _ _
    | with_reducible exact mild_intCmp _ _ _
    | with_reducible exact mild_sliceBound _ _ _
    | with_reducible exact mild_sliceBounds _ _ _ _ _ _
    | refine Mild.bind (fun _ => ?_) ?_
    | refine Mild.map ?_
    | split
    | dsimp only
    | exact trivial
    | intro _)
theorem mild_slice (t : TypeId) (v : Value) (x y z : Option Value) : Mild (Instr.slice t v x y z) := by
  unfold Instr.slice
  repeat' (first
    | with_reducible exact Mild.pure _
    | with_reducible exact mild_stuck _
    | with_reducible exact mild_unsupported _
    | with_reducible exact mild_goPanic _
    | with_reducible exact mild_program
    | with_reducible exact mild_typeInfo _
    | with_reducible exact mild_underlying _
    | with_reducible exact mild_sizeOf _
    | with_reducible exact mild_zeroValue _
    | with_reducible exact mild_isAgg _
    | with_reducible exact mild_load _ _
    | with_reducible exact mild_loadCellsFrom _ _ _ _
    | with_reducible exact mild_loadCells _ _
    | with_reducible exact mild_loadVar _ _
    | with_reducible exact mild_newRow _ _
    | with_reducible exact mild_newVar _ _
    | with_reducible exact mild_sureAddr _
    | with_reducible exact mild_shape _
    | with_reducible exact mild_getObj _
    | with_reducible exact mild_choose _
    | with_reducible exact mild_viewAt _
    | with_reducible exact mild_noView _
    | with_reducible exact mild_byteOf _
    | with_reducible exact mild_partAt _ _ _
    | with_reducible exact mild_fieldPlace _ _
    | with_reducible exact mild_fieldAt _ _ _
    | with_reducible exact mild_loadAt _ _
    | with_reducible exact mild_elemOf _
    | with_reducible exact mild_runtimePanic _
    | with_reducible exact mild_asIntOf _
    | with_reducible exact mild_boundsPanic _ _ _ _
    | with_reducible exact mild_indexAt _ _ _
    | with_reducible exact mild_part _ _ _
    | with_reducible exact mild_index _ _ _
    | with_reducible exact mild_extract _ _
    | with_reducible exact mild_alloc _
    | with_reducible exact mild_box _ _
    | with_reducible exact mild_buildSlice _ _ _
    | with_reducible exact mild_build _ _
    | with_reducible exact mild_len _ _ _
    | with_reducible exact mild_asBool _
    | with_reducible exact mild_stringOp _ _ _
    | with_reducible exact mild_intArith _ _ _ _
    | with_reducible exact mild_intDiv _ _ _ _
    | with_reducible exact mild_intCmp _ _ _
    | with_reducible exact mild_sliceBound _ _ _
    | with_reducible exact mild_sliceBounds _ _ _ _ _ _
    | with_reducible exact mild_asAddr _
    | refine Mild.bind (fun _ => ?_) ?_
    | refine Mild.map ?_
    | split
    | dsimp only
    | exact trivial
    | intro _)
theorem mild_sliceAt (t : TypeId) (v : Value) (x y z : Option Value) : Mild (Instr.sliceAt t v x y z) := by
  unfold Instr.sliceAt
  repeat' (first
    | with_reducible exact Mild.pure _
    | with_reducible exact mild_stuck _
    | with_reducible exact mild_unsupported _
    | with_reducible exact mild_goPanic _
    | with_reducible exact mild_program
    | with_reducible exact mild_typeInfo _
    | with_reducible exact mild_underlying _
    | with_reducible exact mild_sizeOf _
    | with_reducible exact mild_zeroValue _
    | with_reducible exact mild_isAgg _
    | with_reducible exact mild_load _ _
    | with_reducible exact mild_loadCellsFrom _ _ _ _
    | with_reducible exact mild_loadCells _ _
    | with_reducible exact mild_loadVar _ _
    | with_reducible exact mild_newRow _ _
    | with_reducible exact mild_newVar _ _
    | with_reducible exact mild_sureAddr _
    | with_reducible exact mild_shape _
    | with_reducible exact mild_getObj _
    | with_reducible exact mild_choose _
    | with_reducible exact mild_viewAt _
    | with_reducible exact mild_noView _
    | with_reducible exact mild_byteOf _
    | with_reducible exact mild_partAt _ _ _
    | with_reducible exact mild_fieldPlace _ _
    | with_reducible exact mild_fieldAt _ _ _
    | with_reducible exact mild_loadAt _ _
    | with_reducible exact mild_elemOf _
    | with_reducible exact mild_runtimePanic _
    | with_reducible exact mild_asIntOf _
    | with_reducible exact mild_boundsPanic _ _ _ _
    | with_reducible exact mild_indexAt _ _ _
    | with_reducible exact mild_part _ _ _
    | with_reducible exact mild_index _ _ _
    | with_reducible exact mild_extract _ _
    | with_reducible exact mild_alloc _
    | with_reducible exact mild_box _ _
    | with_reducible exact mild_buildSlice _ _ _
    | with_reducible exact mild_build _ _
    | with_reducible exact mild_len _ _ _
    | with_reducible exact mild_asBool _
    | with_reducible exact mild_stringOp _ _ _
    | with_reducible exact mild_intArith _ _ _ _
    | with_reducible exact mild_intDiv _ _ _ _
    | with_reducible exact mild_intCmp _ _ _
    | with_reducible exact mild_sliceBound _ _ _
    | with_reducible exact mild_sliceBounds _ _ _ _ _ _
    | with_reducible exact mild_asAddr _
    | with_reducible exact mild_slice _ _ _ _ _
    | refine Mild.bind (fun _ => ?_) ?_
    | refine Mild.map ?_
    | split
    | dsimp only
    | exact trivial
    | intro _)
theorem mild_min2 (x y : Value) : Mild (Builtin.min2 x y) := by
  unfold Builtin.min2
  repeat' (first
    | with_reducible exact Mild.pure _
    | with_reducible exact mild_stuck _
    | with_reducible exact mild_unsupported _
    | with_reducible exact mild_goPanic _
    | with_reducible exact mild_program
    | with_reducible exact mild_typeInfo _
    | with_reducible exact mild_underlying _
    | with_reducible exact mild_sizeOf _
    | with_reducible exact mild_zeroValue _
    | with_reducible exact mild_isAgg _
    | with_reducible exact mild_load _ _
    | with_reducible exact mild_loadCellsFrom _ _ _ _
    | with_reducible exact mild_loadCells _ _
    | with_reducible exact mild_loadVar _ _
    | with_reducible exact mild_newRow _ _
    | with_reducible exact mild_newVar _ _
    | with_reducible exact mild_sureAddr _
    | with_reducible exact mild_shape _
    | with_reducible exact mild_getObj _
    | with_reducible exact mild_choose _
    | with_reducible exact mild_viewAt _
    | with_reducible exact mild_noView _
    | with_reducible exact mild_byteOf _
    | with_reducible exact mild_partAt _ _ _
    | with_reducible exact mild_fieldPlace _ _
    | with_reducible exact mild_fieldAt _ _ _
    | with_reducible exact mild_loadAt _ _
    | with_reducible exact mild_elemOf _
    | with_reducible exact mild_runtimePanic _
    | with_reducible exact mild_asIntOf _
    | with_reducible exact mild_boundsPanic _ _ _ _
    | with_reducible exact mild_indexAt _ _ _
    | with_reducible exact mild_part _ _ _
    | with_reducible exact mild_index _ _ _
    | with_reducible exact mild_extract _ _
    | with_reducible exact mild_alloc _
    | with_reducible exact mild_box _ _
    | with_reducible exact mild_buildSlice _ _ _
    | with_reducible exact mild_build _ _
    | with_reducible exact mild_len _ _ _
    | with_reducible exact mild_asBool _
    | with_reducible exact mild_stringOp _ _ _
    | with_reducible exact mild_intArith _ _ _ _
    | with_reducible exact mild_intDiv _ _ _ _
    | with_reducible exact mild_intCmp _ _ _
    | with_reducible exact mild_sliceBound _ _ _
    | with_reducible exact mild_sliceBounds _ _ _ _ _ _
    | with_reducible exact mild_asAddr _
    | with_reducible exact mild_slice _ _ _ _ _
    | with_reducible exact mild_sliceAt _ _ _ _ _
    | refine Mild.bind (fun _ => ?_) ?_
    | refine Mild.map ?_
    | split
    | dsimp only
    | exact trivial
    | intro _)
theorem mild_unary (o : UnOp) (x : Value) : Mild (Op.unary o x) := by
  unfold Op.unary Op.intBits Op.intArith
  repeat' (first
    | with_reducible exact Mild.pure _
    | with_reducible exact mild_stuck _
    | with_reducible exact mild_unsupported _
    | with_reducible exact mild_goPanic _
    | with_reducible exact mild_program
    | with_reducible exact mild_typeInfo _
    | with_reducible exact mild_underlying _
    | with_reducible exact mild_sizeOf _
    | with_reducible exact mild_zeroValue _
    | with_reducible exact mild_isAgg _
    | with_reducible exact mild_load _ _
    | with_reducible exact mild_loadCellsFrom _ _ _ _
    | with_reducible exact mild_loadCells _ _
    | with_reducible exact mild_loadVar _ _
    | with_reducible exact mild_newRow _ _
    | with_reducible exact mild_newVar _ _
    | with_reducible exact mild_sureAddr _
    | with_reducible exact mild_shape _
    | with_reducible exact mild_getObj _
    | with_reducible exact mild_choose _
    | with_reducible exact mild_viewAt _
    | with_reducible exact mild_noView _
    | with_reducible exact mild_byteOf _
    | with_reducible exact mild_partAt _ _ _
    | with_reducible exact mild_fieldPlace _ _
    | with_reducible exact mild_fieldAt _ _ _
    | with_reducible exact mild_loadAt _ _
    | with_reducible exact mild_elemOf _
    | with_reducible exact mild_runtimePanic _
    | with_reducible exact mild_asIntOf _
    | with_reducible exact mild_boundsPanic _ _ _ _
    | with_reducible exact mild_indexAt _ _ _
    | with_reducible exact mild_part _ _ _
    | with_reducible exact mild_index _ _ _
    | with_reducible exact mild_extract _ _
    | with_reducible exact mild_alloc _
    | with_reducible exact mild_box _ _
    | with_reducible exact mild_buildSlice _ _ _
    | with_reducible exact mild_build _ _
    | with_reducible exact mild_len _ _ _
    | with_reducible exact mild_asBool _
    | with_reducible exact mild_stringOp _ _ _
    | with_reducible exact mild_intArith _ _ _ _
    | with_reducible exact mild_intDiv _ _ _ _
    | with_reducible exact mild_intCmp _ _ _
    | with_reducible exact mild_sliceBound _ _ _
    | with_reducible exact mild_sliceBounds _ _ _ _ _ _
    | with_reducible exact mild_asAddr _
    | with_reducible exact mild_slice _ _ _ _ _
    | with_reducible exact mild_sliceAt _ _ _ _ _
    | with_reducible exact mild_min2 _ _
    | refine Mild.bind (fun _ => ?_) ?_
    | refine Mild.map ?_
    | split
    | dsimp only
    | exact trivial
    | intro _)
end Go.Eng
