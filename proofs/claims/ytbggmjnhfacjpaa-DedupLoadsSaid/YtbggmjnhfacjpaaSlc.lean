/-
  Parts of texts and slices.
-/
import Derived.Test.YtbggmjnhfacjpaaGrid
set_option linter.unusedVariables false
namespace Go.Eng
open Go Go.RowKit Go.IntWalk

section
variable {P : Program} {e : Env} {x y z : Operand} {t : TypeId}
theorem slcS {s : ByteArray} {n : Nat} {y0 : Int} [hu : Und P t .string] (hx : ev e x = .string s) (hy : ev e y = .int .i64 y0) (hn : y0 = (n : Int)) (h : n ≤ s.size) : Pure P e (.slice t x none (some y) none) (.string (s.extract 0 n)) := by
  intro w d ty pos after g
  subst hn
  simp [execOp, hx, hy, Instr.sliceAt, Instr.slice, run_und hu.h, Instr.sliceBounds, Instr.sliceBound, asIntOf]
  intro h'; omega
theorem slcSf {s : ByteArray} {n : Nat} {y0 : Int} [hu : Und P t .string] (hx : ev e x = .string s) (hy : ev e y = .int .i64 y0) (hn : y0 = (n : Int)) (h : n ≤ s.size) : Pure P e (.slice t x (some y) none none) (.string (s.extract n s.size)) := by
  intro w d ty pos after g
  subst hn
  simp [execOp, hx, hy, Instr.sliceAt, Instr.slice, run_und hu.h, Instr.sliceBounds, Instr.sliceBound, asIntOf]
  intro h'; omega
/-- k & 0xffff -/
def and16v (a : Int) : Nat := (BitVec.ofInt 64 a &&& BitVec.ofInt 64 65535).toNat
theorem and16v_le (a : Int) : and16v a ≤ 65535 := by
  unfold and16v
  rw [BitVec.toNat_and]
  exact Nat.le_trans Nat.and_le_right (by decide)
theorem and16 {t' : TypeId} {a : Int} (hx : ev e x = .int .i64 a) (hy : ev e y = .int .i64 65535) : Pure P e (.binOp .and t x y t') (.int .i64 ((and16v a : Nat) : Int)) := by
  intro w d ty pos after g
  have h := and16v_le a
  have h1 := i64_in ((and16v a : Nat) : Int) (by omega)
  simp only [execOp, hx, hy]
  simp [eqGuard, binOp, Op.intBits]
  exact h1
/-- k & 0xffffff -/
def and24v (a : Int) : Nat := (BitVec.ofInt 64 a &&& BitVec.ofInt 64 16777215).toNat
theorem and24v_le (a : Int) : and24v a ≤ 16777215 := by
  unfold and24v
  rw [BitVec.toNat_and]
  exact Nat.le_trans Nat.and_le_right (by decide)
theorem and24 {t' : TypeId} {a : Int} (hx : ev e x = .int .i64 a) (hy : ev e y = .int .i64 16777215) : Pure P e (.binOp .and t x y t') (.int .i64 ((and24v a : Nat) : Int)) := by
  intro w d ty pos after g
  have h := and24v_le a
  have h1 := i64_in ((and24v a : Nat) : Int) (by omega)
  simp only [execOp, hx, hy]
  simp [eqGuard, binOp, Op.intBits]
  exact h1
theorem add0 (a : Option Addr) : a.map (fun p => p.add 0) = a := by cases a <;> simp [Addr.add]
theorem slcT {a : Option Addr} {m c n : Nat} {y0 : Int} {el : TypeId} {sz by_ : Nat} {zz : Value} [hu : Und P t (.slice el)] [hi : Inf P el sz by_ zz] (hx : ev e x = .slice a m c) (hy : ev e y = .int .i64 y0) (hn : y0 = (n : Int)) (h : n ≤ c) : Pure P e (.slice t x none (some y) none) (.slice a n c) := by
  intro w d ty pos after g
  subst hn
  obtain ⟨i, h1, h2, h3, h4⟩ := hi.h
  have h6 : (a.map fun x => x.add 0) = a := add0 a
  simp [execOp, hx, hy, Instr.sliceAt, Instr.slice, run_und hu.h, Instr.sliceBounds, Instr.sliceBound, asIntOf, run_size h1, h6]
  intro h'; omega
/-- where the rest of a slice begins -/
def restA (a : Option Addr) (c n sz : Nat) : Option Addr := if c = n then a else a.map (·.add (n * sz))
theorem slcD {a : Option Addr} {m c n : Nat} {y0 : Int} {el : TypeId} {sz by_ : Nat} {zz : Value} [hu : Und P t (.slice el)] [hi : Inf P el sz by_ zz] (hx : ev e x = .slice a m c) (hy : ev e y = .int .i64 y0) (hn : y0 = (n : Int)) (h : n ≤ m) : Pure P e (.slice t x (some y) none none) (.slice (restA a c n sz) (m - n) (c - n)) := by
  intro w d ty pos after g
  subst hn
  obtain ⟨i, h1, h2, h3, h4⟩ := hi.h
  subst h2
  simp [execOp, hx, hy, Instr.sliceAt, Instr.slice, run_und hu.h, Instr.sliceBounds, Instr.sliceBound, asIntOf, run_size h1, restA]
  intro h'; omega
end
section
variable {α : Type} [Lies α] {w : World} {a : Option Addr} {l : List α}
theorem Sl.pre (h : Sl w a l) (n : Nat) : Sl w a (l.take n) := by
  cases a with
  | none =>
    show (l.take n).flatMap Lies.enc = []
    have h0 : l.flatMap Lies.enc = [] := h
    have h1 : l.flatMap Lies.enc = (l.take n).flatMap Lies.enc ++ (l.drop n).flatMap Lies.enc := by rw [← List.flatMap_append, List.take_append_drop]
    rw [h1] at h0
    exact (List.append_eq_nil_iff.1 h0).1
  | some p =>
    rcases Nat.le_total n l.length with hn | hn
    · have := h.take 0 n (by omega)
      simpa [Addr.add] using this
    · rwa [List.take_of_length_le hn]
theorem Sl.suf (h : Sl w a l) {n c sz : Nat} (hsz : Lies.sz α = sz) (hn : n ≤ l.length) (hc : l.length ≤ c) (hs : 0 < sz) : Sl w (restA a c n sz) (l.drop n) := by
  cases a with
  | none =>
    have h0 := sl_none h (by omega)
    subst h0
    simp only [List.length_nil] at hn
    unfold restA
    simp
    exact Sl.nil w
  | some p =>
    unfold restA
    split
    · rename_i hcn
      rw [List.drop_of_length_le (by omega)]
      have := h.pre 0
      simpa using this
    · have h1 := h.take n (l.length - n) (by omega)
      rw [hsz, List.take_of_length_le (by simp)] at h1
      exact h1
end
end Go.Eng
