/-
  Keys of maps: strings. Stores into what is owned.
-/
import Derived.Test.YtbggmjnhfacjpaaMap
import Derived.Test.YtbggmjnhfacjpaaSl
set_option linter.unusedVariables false
namespace Go.Eng
open Go Go.RowKit

theorem bytes_beq (a b : ByteArray) : (a == b) = decide (a = b) := by
  show (a.data == b.data) = _
  rw [Bool.eq_iff_iff, beq_iff_eq, decide_eq_true_eq]
  exact ⟨fun h => ByteArray.ext h, fun h => by rw [h]⟩
theorem findNow_string (k : ByteArray) : ∀ (ks : List ByteArray) (es : List MapEntry) (i : Nat), es.map (·.key) = ks.map Value.string → Instr.findNow .string (.string k) es i = some (findK k ks es i)
  | [], [], i, _ => rfl
  | [], e :: es, i, h => by simp at h
  | k' :: ks, [], i, h => by simp at h
  | k' :: ks, e :: es, i, h => by
    simp only [List.map_cons, List.cons.injEq] at h
    have ih := findNow_string k ks es (i + 1) h.2
    unfold Instr.findNow findK
    rw [h.1]
    by_cases hk : k = k'
    · subst hk; simp only [Instr.sameNow, bytes_beq, decide_true, if_true]
    · simp only [Instr.sameNow, bytes_beq, ih, hk, decide_false, if_false]
instance KeyT.string {P : Program} {t : TypeId} [hu : Und P t .string] : KeyT P t ByteArray where
  enc k := .string k
  find k ks es h w := by
    unfold Instr.findKey
    simp only [Sem.run_bind, run_und hu.h, Result.andThen_ok, findNow_string k ks es 0 h]
    rfl
  check b k w := MapKept.run_checkKey hu.h (d := .string) (k := .string k) trivial b 9999
  bits k := by simp only [Instr.sameBits, bytes_beq, decide_true]

theorem Mp.neb {P : Program} {t : TypeId} {K : Type} [DecidableEq K] [KeyT P t K] {B m : Nat} {w : World} {l : List (K × Value)} (h : Mp P t B w m l) {B' b : Nat} {T : TypeId} {cs : List Value} (hb : Box B' w b T cs) : m ≠ b := by
  rintro rfl
  obtain ⟨_, _, es, c, h1, _⟩ := h
  rw [hb.at_] at h1
  cases h1

/-- a map, whatever it holds -/
def MpE (P : Program) (t : TypeId) (K : Type) [DecidableEq K] [KeyT P t K] (B : Nat) (w : World) (m : Nat) : Prop := ∃ l : List (K × Value), Mp P t B w m l
theorem MpE.ext {P : Program} {t : TypeId} {K : Type} [DecidableEq K] [KeyT P t K] {B m : Nat} {w w' : World} (h : MpE P t K B w m) (k : Ext w w') : MpE P t K B w' m := let ⟨l, hl⟩ := h; ⟨l, hl.ext k⟩

/-- a struct of a string and an int -/
theorem eqs_pair {P : Program} {t : TypeId} {α : Type} [Lies α] [DecidableEq α] {f0 f1 : Field} {s0 : α → ByteArray} {n0 : α → Int} (hu : P.underlying t = some (.struct #[f0, f1])) (hp : P.stoodInHeld t = false) (hg : P.eqGuardType P.depth t = false)
    (hs : P.underlying f0.type = some .string) (hn : P.underlying f1.type = some (.int .i64)) (o0 : f0.offset = 0) (o1 : f1.offset = 1) (m0 : f0.name ≠ "_") (m1 : f1.name ≠ "_")
    (he : ∀ x : α, Lies.enc x = [.string (s0 x), .int .i64 (n0 x)]) (hx : ∀ x y : α, s0 x = s0 y → n0 x = n0 y → x = y) : EqS P t α := by
  refine ⟨fun x y w => ?_, hg⟩
  have hfs : P.fieldsOf t = #[f0, f1] := by simp [Program.fieldsOf, hu]
  rw [he, he, run_equalIn_struct w 9999 t _ _ (by rw [hfs]; exact hu) hp, hfs]
  have p1 : ∀ (a : ByteArray) (b : Int), (part f0.type [Value.string a, .int .i64 b].toArray f0.offset).run P w = .ok (.string a) w := by
    intro a b
    simp [part, isAgg, run_und hs, o0]
  have p2 : ∀ (a : ByteArray) (b : Int), (part f1.type [Value.string a, .int .i64 b].toArray f1.offset).run P w = .ok (.int .i64 b) w := by
    intro a b
    simp [part, isAgg, run_und hn, o1]
  have q1 := fun (a b : ByteArray) (w : World) => run_equalIn_string (P := P) w 9998 f0.type a b hs
  have q2 := fun (a b : Int) (w : World) => run_equalIn_int (P := P) w 9998 f1.type .i64 .i64 a b hn
  simp only [Op.eqFields, m0, m1, ne_eq, not_false_eq_true, if_true, Sem.run_bind, p1, Result.andThen_ok, q1, toList_beq]
  by_cases h1 : s0 x = s0 y
  · by_cases h2 : n0 x = n0 y
    · have := hx x y h1 h2; subst this; simp [p2, q2]
    · have : x ≠ y := fun e => h2 (by rw [e])
      have h3 : (n0 x == n0 y) = false := by simpa using h2
      simp [h1, this, p2, q2, h3]
  · have : x ≠ y := fun e => h1 (by rw [e])
    simp [h1, this]

section
variable {P : Program} {n : Nat} {ops : Array Oper} {l : List Oper} {K : Env → World → Prop} {el : List (Nat × Value)} {b : Env} {w : World} {dt : Nat} {op : Op} {ty : TypeId} {pos : String} {after : Array Edge}
/-- a store into an owned row: element i, or the cells of it from off on -/
theorem RL.setOwn {α : Type} [Lies α] {t elem : TypeId} {sz by_ : Nat} {z : Value} [hi : Inf P t sz by_ z] {x y : Operand} {B : Nat} {a : Option Addr} {c : Nat} {l' : List α} {i off : Nat} {vs : List Value} {u : α} {v : Value}
    (hx : ev (look el b) x = elp a (i * Lies.sz α + off)) (hown : Own B w elem a c l') (hlt : i < l'.length) (hy : ev (look el b) y = v) (hv : v.cells = vs.toArray) (hl : vs.length = sz) (hoff : off + sz ≤ Lies.sz α) (hs : splice (Lies.enc l'[i]) off vs = Lies.enc u) (h1 : ∀ v ∈ vs, v.oneCell' = true)
    (k : ∀ w', Upd (inBlock a) w w' → Own B w' elem a c (l'.set i u) → RL P n ops l K (look el b) w') :
    RL P n ops (⟨none, .store t x y, ty, pos, after, none⟩ :: l) K (look el b) w := by
  obtain ⟨j, h2, h3, h4, h5⟩ := hi.h
  obtain ⟨w', hr, hu, ho⟩ := own_store (P := P) (t := t) hown hlt (by rw [hl]; exact hoff) hs h1 ⟨j, h2, by rw [h3, hl]⟩ hv
  refine RL.skip' (w' := w') (fun _ _ => wanted_none rfl _) rfl ?_ (k w' hu ho)
  simp only [execOp, hx, hy]
  simp [hr]
end
end Go.Eng
