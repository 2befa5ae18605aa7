/-
  What is known of memory: extension, boxes, rows that are read, rows that a call owns.
-/
import Derived.Test.YtbggmjnhfacjpaaEng
set_option linter.unusedVariables false
namespace Go.Eng
open Go Go.RowKit

/-! ### worlds that follow one another -/
/-- how far the tape has been read: asked where a contract of the kit asks for it -/
def dle (a b : Nat) : Prop := a ≤ b
theorem dle.of {a b : Nat} (h : a ≤ b) : dle a b := by unfold dle; first | exact h | trivial
theorem dle.refl (a : Nat) : dle a a := dle.of (Nat.le_refl a)
theorem dle.trans {a b c : Nat} (h : dle a b) (k : dle b c) : dle a c := by unfold dle at *; first | exact Nat.le_trans h k | trivial
/-- The blocks that X tells may have turned; all others are as they were. -/
structure Upd (X : Nat → Prop) (w w' : World) : Prop where
  os : w'.os = w.os
  tape : w'.tape = w.tape
  output : w'.output = w.output
  drawn : dle w.drawn w'.drawn
  size : w.heap.size ≤ w'.heap.size
  block : ∀ k, k < w.heap.size → ¬ X k → w'.heap[k]? = w.heap[k]?
/-- Nothing that was there has turned. -/
def Ext (w w' : World) : Prop := Upd (fun _ => False) w w'

theorem Upd.refl (X : Nat → Prop) (w : World) : Upd X w w := ⟨rfl, rfl, rfl, dle.refl _, Nat.le_refl _, fun _ _ _ => rfl⟩
theorem Ext.refl (w : World) : Ext w w := Upd.refl _ w
theorem Upd.trans {X : Nat → Prop} {a b c : World} (h : Upd X a b) (k : Upd X b c) : Upd X a c :=
  ⟨k.os.trans h.os, k.tape.trans h.tape, k.output.trans h.output, dle.trans (Upd.drawn h) k.drawn, Nat.le_trans h.size k.size, fun i hi hx => (k.block i (Nat.lt_of_lt_of_le hi h.size) hx).trans (h.block i hi hx)⟩
theorem Upd.mono {X Y : Nat → Prop} {a b : World} (h : Upd X a b) (hxy : ∀ k, k < a.heap.size → X k → Y k) : Upd Y a b :=
  ⟨h.os, h.tape, h.output, h.drawn, h.size, fun i hi hy => h.block i hi (fun hx => hy (hxy i hi hx))⟩
theorem Ext.toUpd {X : Nat → Prop} {a b : World} (h : Ext a b) : Upd X a b := Upd.mono h (fun _ _ hx => hx.elim)
theorem Ext.size {a b : World} (h : Ext a b) : a.heap.size ≤ b.heap.size := Upd.size h
theorem Ext.trans {a b c : World} (h : Ext a b) (k : Ext b c) : Ext a c := Upd.trans h k
theorem Ext.ext {a b c : World} (h : Ext a b) (k : Ext b c) : Ext a c := Upd.trans h k
theorem Upd.ext {X : Nat → Prop} {a b c : World} (h : Upd X a b) (k : Ext b c) : Upd X a c := Upd.trans h k.toUpd
/-- Only blocks that were not there have turned. -/
theorem Ext.upd {X : Nat → Prop} {a b c : World} (h : Ext a b) (k : Upd X b c) (hX : ∀ i, X i → a.heap.size ≤ i) : Ext a c :=
  ⟨k.os.trans h.os, k.tape.trans h.tape, k.output.trans h.output, dle.trans (Upd.drawn h) k.drawn, Nat.le_trans h.size k.size, fun i hi _ => (k.block i (Nat.lt_of_lt_of_le hi h.size) (fun hx => Nat.not_le_of_lt hi (hX i hx))).trans (Upd.block h i hi (fun f => f))⟩
theorem Upd.upd {X Y : Nat → Prop} {a b c : World} (h : Upd X a b) (k : Upd Y b c) (hX : ∀ i, i < a.heap.size → Y i → X i) : Upd X a c :=
  ⟨k.os.trans h.os, k.tape.trans h.tape, k.output.trans h.output, dle.trans (Upd.drawn h) k.drawn, Nat.le_trans h.size k.size, fun i hi hx => (k.block i (Nat.lt_of_lt_of_le hi h.size) (fun hy => hx (hX i hi hy))).trans (h.block i hi hx)⟩
theorem Ext.below {w w' : World} (h : Ext w w') : Below w.heap.size w w' := ⟨Upd.os h, Upd.tape h, Upd.output h, Upd.size h, fun k hk => Upd.block h k hk (fun f => f)⟩
theorem Ext.heap {a b : World} (h : Ext a b) {k : Nat} {o : Obj} (ho : a.heap[k]? = some o) : b.heap[k]? = some o := by
  rw [Upd.block h k (Array.getElem?_eq_some_iff.1 ho).1 (fun f => f)]; exact ho
theorem Upd.heap {X : Nat → Prop} {a b : World} (h : Upd X a b) {k : Nat} {o : Obj} (ho : a.heap[k]? = some o) (hx : ¬ X k) : b.heap[k]? = some o := by
  rw [h.block k (Array.getElem?_eq_some_iff.1 ho).1 hx]; exact ho
theorem Ext.drew (w : World) : Ext w w.drew := ⟨rfl, rfl, rfl, dle.of (Nat.le_succ _), Nat.le_refl _, fun _ _ _ => rfl⟩
theorem Ext.alloc (w : World) (o : Obj) : Ext w (w.alloc o) := ⟨rfl, rfl, rfl, dle.refl _, by simp, fun k hk _ => Below.heap_alloc w o k hk⟩
theorem Upd.setCell (w : World) (a : Addr) (v : Value) : Upd (· = a.block) w (w.setCell a v) :=
  ⟨rfl, rfl, rfl, dle.refl _, by simp, fun k hk hx => heap_setCell_other w a k v hx⟩
theorem Ext.lt {a b : World} (h : Ext a b) {k : Nat} (hk : k < a.heap.size) : k < b.heap.size := Nat.lt_of_lt_of_le hk h.size

/-! ### a block of the call's own -/
/-- Block b, not older than B, holds just cs. -/
structure Box (B : Nat) (w : World) (b : Nat) (T : TypeId) (cs : List Value) : Prop where
  old : B ≤ b
  at_ : w.heap[b]? = some (.cells cs.toArray T (0, 0))
theorem Box.lt {B : Nat} {w : World} {b : Nat} {T : TypeId} {cs : List Value} (h : Box B w b T cs) : b < w.heap.size := (Array.getElem?_eq_some_iff.1 h.at_).1
theorem Box.ext {B : Nat} {w w' : World} {b : Nat} {T : TypeId} {cs : List Value} (h : Box B w b T cs) (k : Ext w w') : Box B w' b T cs := ⟨h.old, k.heap h.at_⟩
theorem Box.upd {X : Nat → Prop} {B : Nat} {w w' : World} {b : Nat} {T : TypeId} {cs : List Value} (h : Box B w b T cs) (k : Upd X w w') (hx : ¬ X b) : Box B w' b T cs := ⟨h.old, k.heap h.at_ hx⟩
theorem Box.ne {B : Nat} {w : World} {b b' : Nat} {T : TypeId} {cs : List Value} (h : Box B w b T cs) (hb : b' = w.heap.size) : b ≠ b' := fun e => by have := h.lt; omega
/-- what is changed in such a block is new -/
theorem Ext.box {w0 w w' : World} {b : Nat} (h : Ext w0 w) (k : Upd (· = b) w w') (hb : w0.heap.size ≤ b) : Ext w0 w' := h.upd k (fun i hi => by subst hi; exact hb)

/-! ### rows that are read -/
/-- The row at a begins with cs. -/
def Row (w : World) : Option Addr → List Value → Prop
  | none, cs => cs = []
  | some p, cs => p.spot = none ∧ ∃ arr T fr, w.heap[p.block]? = some (.cells arr T fr) ∧ p.off + cs.length ≤ arr.size ∧ ∀ i, i < cs.length → arr[p.off + i]? = cs[i]?
theorem Row.ext {w w' : World} {a : Option Addr} {cs : List Value} (h : Row w a cs) (k : Ext w w') : Row w' a cs := by
  cases a with
  | none => exact h
  | some p => obtain ⟨hs, arr, T, fr, hb, hc⟩ := h; exact ⟨hs, arr, T, fr, k.heap hb, hc⟩
theorem Row.upd {X : Nat → Prop} {w w' : World} {a : Option Addr} {cs : List Value} (h : Row w a cs) (k : Upd X w w') (hx : ∀ p, a = some p → ¬ X p.block) : Row w' a cs := by
  cases a with
  | none => exact h
  | some p => obtain ⟨hs, arr, T, fr, hb, hc⟩ := h; exact ⟨hs, arr, T, fr, k.heap hb (hx p rfl), hc⟩
theorem Row.nil (w : World) : Row w none [] := rfl
theorem Row.lt {w : World} {p : Addr} {cs : List Value} (h : Row w (some p) cs) : p.block < w.heap.size := by
  obtain ⟨_, arr, T, fr, hb, _⟩ := h
  exact (Array.getElem?_eq_some_iff.1 hb).1
theorem addr_add (p : Addr) (hs : p.spot = none) (k : Nat) : p.add k = ⟨p.block, p.off + k, none⟩ := by
  unfold Addr.add
  split
  · rename_i h; subst h; cases p; simp_all
  · simp
theorem addr_add_add (p : Addr) (hs : p.spot = none) (k j : Nat) : (p.add k).add j = p.add (k + j) := by
  rw [addr_add p hs, addr_add p hs, addr_add _ rfl, Nat.add_assoc]
theorem Row.cell {w : World} {p : Addr} {cs : List Value} (h : Row w (some p) cs) {k : Nat} {v : Value} (hk : cs[k]? = some v) : w.cell? (p.add k) = some v := by
  obtain ⟨hs, arr, T, fr, hb, hl, hc⟩ := h
  have hlt : k < cs.length := (List.getElem?_eq_some_iff.1 hk).1
  rw [addr_add p hs]
  simp [World.cell?, hb, hc k hlt, hk]
theorem Row.isAddr {w : World} {a : Option Addr} {cs : List Value} (h : Row w a cs) (hl : 0 < cs.length) : ∃ p, a = some p := by
  cases a with
  | none => have : cs = [] := h; subst this; cases hl
  | some p => exact ⟨p, rfl⟩
theorem Row.sub {w : World} {p : Addr} {cs : List Value} (h : Row w (some p) cs) (k m : Nat) (hk : k + m ≤ cs.length) : Row w (some (p.add k)) ((cs.drop k).take m) := by
  obtain ⟨hs, arr, T, fr, hb, hl, hc⟩ := h
  rw [addr_add p hs]
  refine ⟨rfl, arr, T, fr, hb, ?_, fun i hi => ?_⟩
  · simp; omega
  · simp only [List.length_take, List.length_drop] at hi
    have := hc (k + i) (by omega)
    rw [List.getElem?_take]
    have hi' : i < m := by omega
    simp only [hi', if_true, List.getElem?_drop, Nat.add_assoc]
    exact this

/-- an address in a row: the k-th cell behind a -/
def elp (a : Option Addr) (k : Nat) : Value := .pointer (a.map (·.add k))

theorem flatMap_length {α : Type} {enc : α → List Value} {sz : Nat} (hsz : ∀ x, (enc x).length = sz) : ∀ (l : List α), (l.flatMap enc).length = l.length * sz
  | [] => by simp
  | x :: l => by simp [flatMap_length hsz l, hsz, Nat.add_mul]; omega
theorem flatMap_get {α : Type} {enc : α → List Value} {sz : Nat} (hsz : ∀ x, (enc x).length = sz) : ∀ (l : List α) (i : Nat) (hi : i < l.length), ((l.flatMap enc).drop (i * sz)).take sz = enc l[i]
  | x :: l, 0, _ => by simp [hsz]
  | x :: l, i + 1, hi => by
    have ih := flatMap_get hsz l i (by simpa using hi)
    simp only [List.flatMap_cons, List.getElem_cons_succ]
    rw [← ih, List.drop_append, hsz, List.drop_eq_nil_of_le (by rw [hsz, Nat.add_mul]; omega), List.nil_append]
    congr 2
    rw [Nat.add_mul]; omega

theorem flatMap_take {α : Type} {enc : α → List Value} {sz : Nat} (hsz : ∀ x, (enc x).length = sz) : ∀ (l : List α) (k : Nat), (l.take k).flatMap enc = (l.flatMap enc).take (k * sz)
  | [], k => by simp
  | x :: l, 0 => by simp
  | x :: l, k + 1 => by
    simp only [List.take_succ_cons, List.flatMap_cons, flatMap_take hsz l k]
    rw [Nat.add_mul, Nat.one_mul, Nat.add_comm, List.take_append (l₁ := enc x), hsz, List.take_of_length_le (l := enc x) (by rw [hsz]; omega), Nat.add_sub_cancel_left]
theorem flatMap_drop {α : Type} {enc : α → List Value} {sz : Nat} (hsz : ∀ x, (enc x).length = sz) : ∀ (l : List α) (k : Nat), (l.drop k).flatMap enc = (l.flatMap enc).drop (k * sz)
  | [], k => by simp
  | x :: l, 0 => by simp
  | x :: l, k + 1 => by
    simp only [List.drop_succ_cons, List.flatMap_cons, flatMap_drop hsz l k]
    rw [Nat.add_mul, Nat.one_mul, Nat.add_comm, List.drop_append (l₁ := enc x), hsz, List.drop_eq_nil_of_le (as := enc x) (by rw [hsz]; omega), Nat.add_sub_cancel_left, List.nil_append]

/-- how data of a type lie in cells -/
class Lies (α : Type) where
  sz : Nat
  enc : α → List Value
  len : ∀ x, (enc x).length = sz
/-- A slice that begins at a reads as l. -/
def Sl {α : Type} [Lies α] (w : World) (a : Option Addr) (l : List α) : Prop := Row w a (l.flatMap Lies.enc)
section
variable {α : Type} [Lies α] {w w' : World} {a : Option Addr} {l : List α}
theorem Sl.ext (h : Sl w a l) (k : Ext w w') : Sl w' a l := Row.ext h k
theorem Sl.upd {X : Nat → Prop} (h : Sl w a l) (k : Upd X w w') (hx : ∀ p, a = some p → ¬ X p.block) : Sl w' a l := Row.upd h k hx
theorem Sl.nil (w : World) : Sl w none ([] : List α) := rfl
theorem Sl.isAddr (h : Sl w a l) (hs : 0 < Lies.sz α) {i : Nat} (hi : i < l.length) : ∃ p, a = some p :=
  Row.isAddr h (by rw [flatMap_length Lies.len]; exact Nat.mul_pos (by omega) hs)
theorem Sl.row {p : Addr} (h : Sl w (some p) l) {i : Nat} (hi : i < l.length) : Row w (some (p.add (i * Lies.sz α))) (Lies.enc l[i]) := by
  rw [← flatMap_get Lies.len l i hi]
  exact Row.sub h _ _ (by rw [flatMap_length Lies.len, ← Nat.succ_mul]; exact Nat.mul_le_mul_right _ hi)
theorem Sl.cell {p : Addr} (h : Sl w (some p) l) {i : Nat} (hi : i < l.length) {k : Nat} {v : Value} (hv : (Lies.enc l[i])[k]? = some v) : w.cell? (p.add (i * Lies.sz α + k)) = some v := by
  have hs : p.spot = none := h.1
  rw [← addr_add_add p hs]
  exact (h.row hi).cell hv
theorem Sl.take {p : Addr} (h : Sl w (some p) l) (k m : Nat) (hk : k + m ≤ l.length) : Sl w (some (p.add (k * Lies.sz α))) ((l.drop k).take m) := by
  have h1 : (((l.drop k).take m).flatMap (Lies.enc (α := α))) = ((l.flatMap Lies.enc).drop (k * Lies.sz α)).take (m * Lies.sz α) := by
    rw [flatMap_take Lies.len, flatMap_drop Lies.len]
  unfold Sl
  rw [h1]
  exact Row.sub h _ _ (by rw [flatMap_length Lies.len, ← Nat.add_mul]; exact Nat.mul_le_mul_right _ hk)
end

/-! ### rows that the call owns: the kit's word, told by the data -/
/-- The slice value .slice a l.length c is the call's own, in a block from B on; T: its elements' type. -/
def Own {α : Type} [Lies α] (B : Nat) (w : World) (T : TypeId) (a : Option Addr) (c : Nat) (l : List α) : Prop :=
  w.ownsRow B T (Lies.sz α) (.slice a l.length c) l.length (l.flatMap Lies.enc)
/-- the block in which it lies -/
def inBlock (a : Option Addr) (k : Nat) : Prop := ∃ p, a = some p ∧ p.block = k
section
variable {α : Type} [Lies α] {B : Nat} {w w' : World} {T : TypeId} {a : Option Addr} {c : Nat} {l : List α}
theorem Own.nil (B : Nat) (w : World) (T : TypeId) : Own B w T none 0 ([] : List α) := World.ownsRow_nil w B T _
theorem Own.cases (h : Own B w T a c l) : (a = none ∧ c = 0 ∧ l = []) ∨ ∃ g cur, a = some ⟨g, 0, none⟩ ∧ B ≤ g ∧ w.heap[g]? = some (.cells cur T (0, 0)) ∧ l.length ≤ c ∧ cur.size = c * Lies.sz α ∧ cur.toList.take (l.length * Lies.sz α) = l.flatMap Lies.enc := by
  rcases h.2 with ⟨h1, h2⟩ | ⟨g, cap, cur, h1, h2, h3, h4, h5, h6, h7⟩
  · injection h1 with e1 e2 e3
    exact .inl ⟨e1, e3, List.length_eq_zero_iff.1 h2⟩
  · injection h1 with e1 e2 e3
    subst e3
    exact .inr ⟨g, cur, e1, h2, h3, h4, h6, h7⟩
theorem Own.sl (h : Own B w T a c l) : Sl w a l := by
  rcases h.cases with ⟨rfl, rfl, rfl⟩ | ⟨g, cur, rfl, hB, hg, hle, hsz, htk⟩
  · rfl
  · refine ⟨rfl, cur, T, (0, 0), hg, ?_, fun i hi => ?_⟩
    · rw [flatMap_length Lies.len, hsz, Nat.zero_add]; exact Nat.mul_le_mul_right _ hle
    · rw [← htk] at hi ⊢
      have : i < l.length * Lies.sz α := by simp only [List.length_take] at hi; omega
      simp [this]
theorem Own.blk (h : Own B w T a c l) {k : Nat} (hk : inBlock a k) : B ≤ k ∧ k < w.heap.size := by
  obtain ⟨p, rfl, rfl⟩ := hk
  rcases h.cases with ⟨h1, _⟩ | ⟨g, cur, h1, hB, hg, _⟩
  · cases h1
  · injection h1 with h1; subst h1
    exact ⟨hB, (Array.getElem?_eq_some_iff.1 hg).1⟩
theorem Own.ext (h : Own B w T a c l) (k : Ext w w') : Own B w' T a c l := by
  refine ⟨h.1, ?_⟩
  rcases h.2 with hn | ⟨g, cap, cur, h1, h2, h3, h4⟩
  · exact .inl hn
  · exact .inr ⟨g, cap, cur, h1, h2, k.heap h3, h4⟩
theorem Own.upd {X : Nat → Prop} (h : Own B w T a c l) (k : Upd X w w') (hx : ∀ i, inBlock a i → ¬ X i) : Own B w' T a c l := by
  refine ⟨h.1, ?_⟩
  rcases h.2 with hn | ⟨g, cap, cur, h1, h2, h3, h4⟩
  · exact .inl hn
  · injection h1 with e1 e2 e3
    exact .inr ⟨g, cap, cur, by rw [e1, e3], h2, k.heap h3 (hx g ⟨_, e1, rfl⟩), h4⟩
/-- what an append leaves: the old row's block, or a new one -/
theorem Ext.own {w0 : World} (H : Ext w0 w) (h : Own w0.heap.size w T a c l) (k : Upd (inBlock a) w w') : Ext w0 w' := H.upd k (fun i hi => (h.blk hi).1)
end
end Go.Eng
