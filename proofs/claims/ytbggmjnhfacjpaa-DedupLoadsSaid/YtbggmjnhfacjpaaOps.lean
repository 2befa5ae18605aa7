/-
  The operations, one rule each: what a register operation yields (Pure), what a load yields (Does), and the rules of regions.
-/
import Derived.Test.YtbggmjnhfacjpaaMem
import Derived.IntWalk
set_option linter.unusedVariables false
namespace Go.Eng
open Go Go.RowKit Go.IntWalk

/-! ### what is known of a program's types -/
class Und (P : Program) (t : TypeId) (d : outParam TypeDesc) : Prop where
  h : P.underlying t = some d
class Inf (P : Program) (t : TypeId) (sz : outParam Nat) (bytes : outParam Nat) (z : outParam Value) : Prop where
  h : ∃ i, P.info? t = some i ∧ i.size = sz ∧ i.bytes = bytes ∧ i.zero = some z
/-- field f of struct type s lies off cells behind the struct's head, and has a size -/
class Fld (P : Program) (s : TypeId) (f : Nat) (off : outParam Nat) (ft : outParam TypeId) : Prop where
  h : ∃ fs fld i, P.underlying s = some (.struct fs) ∧ fs[f]? = some fld ∧ fld.type = ft ∧ fld.offset = off ∧ P.info? ft = some i ∧ i.size ≠ 0
def aggDesc : TypeDesc → Bool
  | .struct _ => true
  | .array _ _ => true
  | _ => false
class Flat (P : Program) (t : TypeId) : Prop where
  h : ∃ d, P.underlying t = some d ∧ aggDesc d = false
class Agg (P : Program) (t : TypeId) (sz : outParam Nat) : Prop where
  h : ∃ d i, P.underlying t = some d ∧ aggDesc d = true ∧ P.info? t = some i ∧ i.size = sz

section
variable {P : Program} {t el : TypeId} {sz by_ : Nat} {z : Value} {w : World}
theorem run_und {d : TypeDesc} (h : P.underlying t = some d) (w : World) : (underlying t).run P w = .ok d w := run_underlying h w
theorem run_size {i : TypeInfo} (h : P.info? t = some i) (w : World) : (sizeOf t).run P w = .ok i.size w := by
  simp [sizeOf, typeInfo, h]
theorem run_isAgg {d : TypeDesc} (h : P.underlying t = some d) (w : World) : (isAgg t).run P w = .ok (aggDesc d) w := by
  unfold isAgg
  rw [Sem.run_bind, run_und h]
  cases d <;> rfl
end

/-- a register operation: whatever the world, it yields v and leaves the world alone -/
def Pure (P : Program) (e : Env) (op : Op) (v : Value) : Prop := ∀ (w : World) d ty pos after g, (execOp (ev e) ⟨d, op, ty, pos, after, g⟩).run P w = .ok (.value v) w
/-- in every world in which all of w is as it was it yields v and leaves the world alone -/
def Does (P : Program) (e : Env) (w : World) (op : Op) (v : Value) : Prop := ∀ w', Ext w w' → ∀ d ty pos after g, (execOp (ev e) ⟨d, op, ty, pos, after, g⟩).run P w' = .ok (.value v) w'
theorem Pure.does {P : Program} {e : Env} {op : Op} {v : Value} (h : Pure P e op v) (w : World) : Does P e w op v := fun w' _ => h w'

section
variable {P : Program} {e : Env} {x y : Operand} {t t' : TypeId} {w : World}

/-! ### registers -/
theorem mv (x : Operand) : Pure P e (.move x) (ev e x) := fun _ _ _ _ _ _ => rfl
theorem asg (x : Operand) : Pure P e (.assign x) (ev e x) := fun _ _ _ _ _ _ => rfl
theorem mvv {v : Value} (hx : ev e x = v) : Pure P e (.move x) v := by subst hx; exact mv x
theorem asgv {v : Value} (hx : ev e x = v) : Pure P e (.assign x) v := by subst hx; exact asg x
theorem mvI {k : IntKind} {a : Int} (hx : ev e x = .int k a) : Pure P e (.move x) (.int k a) := mvv hx
theorem asgI {k : IntKind} {a : Int} (hx : ev e x = .int k a) : Pure P e (.assign x) (.int k a) := asgv hx
theorem mvS {s : ByteArray} (hx : ev e x = .string s) : Pure P e (.move x) (.string s) := mvv hx
theorem asgS {s : ByteArray} (hx : ev e x = .string s) : Pure P e (.assign x) (.string s) := asgv hx
theorem mvL {p : Option Addr} {m c : Nat} (hx : ev e x = .slice p m c) : Pure P e (.move x) (.slice p m c) := mvv hx
theorem asgL {p : Option Addr} {m c : Nat} (hx : ev e x = .slice p m c) : Pure P e (.assign x) (.slice p m c) := asgv hx
theorem mvB {c : Bool} (hx : ev e x = .bool c) : Pure P e (.move x) (.bool c) := mvv hx
theorem asgB {c : Bool} (hx : ev e x = .bool c) : Pure P e (.assign x) (.bool c) := asgv hx
theorem mvP {p : Option Addr} (hx : ev e x = .pointer p) : Pure P e (.move x) (.pointer p) := mvv hx
theorem asgP {p : Option Addr} (hx : ev e x = .pointer p) : Pure P e (.assign x) (.pointer p) := asgv hx
theorem mvA {cs : Array Value} (hx : ev e x = .agg cs) : Pure P e (.move x) (.agg cs) := mvv hx
theorem asgA {cs : Array Value} (hx : ev e x = .agg cs) : Pure P e (.assign x) (.agg cs) := asgv hx
theorem mvF {f : Fn} {u v : Array Value} (hx : ev e x = .func f u v) : Pure P e (.move x) (.func f u v) := mvv hx
theorem asgF {f : Fn} {u v : Array Value} (hx : ev e x = .func f u v) : Pure P e (.assign x) (.func f u v) := asgv hx
theorem mvM {p : Option Nat} (hx : ev e x = .map p) : Pure P e (.move x) (.map p) := mvv hx
theorem asgM {p : Option Nat} (hx : ev e x = .map p) : Pure P e (.assign x) (.map p) := asgv hx
theorem mvU {vs : Array Value} (hx : ev e x = .tuple vs) : Pure P e (.move x) (.tuple vs) := mvv hx
theorem asgU {vs : Array Value} (hx : ev e x = .tuple vs) : Pure P e (.assign x) (.tuple vs) := asgv hx
theorem pickT {c a b : Operand} (hc : ev e c = .bool true) : Pure P e (.pick c a b) (ev e a) := by
  intro w d ty pos after g; simp [execOp, hc, asBool]
theorem pickF {c a b : Operand} (hc : ev e c = .bool false) : Pure P e (.pick c a b) (ev e b) := by
  intro w d ty pos after g; simp [execOp, hc, asBool]

theorem add {a b : Int} (hx : ev e x = .int .i64 a) (hy : ev e y = .int .i64 b) (h : -9223372036854775808 ≤ a + b ∧ a + b ≤ 9223372036854775807) : Pure P e (.binOp .add t x y t') (.int .i64 (a + b)) := by
  intro w d ty pos after g; simp [execOp, hx, hy, eqGuard, binOp, Op.intArith, i64_in _ h]
theorem sub {a b : Int} (hx : ev e x = .int .i64 a) (hy : ev e y = .int .i64 b) (h : -9223372036854775808 ≤ a - b ∧ a - b ≤ 9223372036854775807) : Pure P e (.binOp .sub t x y t') (.int .i64 (a - b)) := by
  intro w d ty pos after g; simp [execOp, hx, hy, eqGuard, binOp, Op.intArith, i64_in _ h]
theorem mul {a b : Int} (hx : ev e x = .int .i64 a) (hy : ev e y = .int .i64 b) (h : -9223372036854775808 ≤ a * b ∧ a * b ≤ 9223372036854775807) : Pure P e (.binOp .mul t x y t') (.int .i64 (a * b)) := by
  intro w d ty pos after g; simp [execOp, hx, hy, eqGuard, binOp, Op.intArith, i64_in _ h]
theorem quo {a b : Int} (hx : ev e x = .int .i64 a) (hy : ev e y = .int .i64 b) (h : 0 ≤ a ∧ a ≤ 9223372036854775807 ∧ 1 ≤ b) : Pure P e (.binOp .quo t x y t') (.int .i64 (a / b)) := by
  intro w d ty pos after g
  have hb : ¬ b = 0 := by omega
  simp [execOp, hx, hy, eqGuard, binOp, Op.intDiv, hb, i64_quo a b h]
theorem rem {a b : Int} (hx : ev e x = .int .i64 a) (hy : ev e y = .int .i64 b) (h : 0 ≤ a ∧ 1 ≤ b) : Pure P e (.binOp .rem t x y t') (.int .i64 (a % b)) := by
  intro w d ty pos after g
  have hb : ¬ b = 0 := by omega
  simp [execOp, hx, hy, eqGuard, binOp, Op.intDiv, hb, rem_in a b h.1]
theorem lss {k : IntKind} {a b : Int} (hx : ev e x = .int k a) (hy : ev e y = .int k b) : Pure P e (.binOp .lss t x y t') (.bool (decide (a < b))) := by
  intro w d ty pos after g; simp [execOp, hx, hy, eqGuard, binOp, Op.intCmp]
theorem leq {k : IntKind} {a b : Int} (hx : ev e x = .int k a) (hy : ev e y = .int k b) : Pure P e (.binOp .leq t x y t') (.bool (decide (a ≤ b))) := by
  intro w d ty pos after g; simp [execOp, hx, hy, eqGuard, binOp, Op.intCmp]
theorem gtr {k : IntKind} {a b : Int} (hx : ev e x = .int k a) (hy : ev e y = .int k b) : Pure P e (.binOp .gtr t x y t') (.bool (decide (b < a))) := by
  intro w d ty pos after g; simp [execOp, hx, hy, eqGuard, binOp, Op.intCmp]
theorem geq {k : IntKind} {a b : Int} (hx : ev e x = .int k a) (hy : ev e y = .int k b) : Pure P e (.binOp .geq t x y t') (.bool (decide (b ≤ a))) := by
  intro w d ty pos after g; simp [execOp, hx, hy, eqGuard, binOp, Op.intCmp]
theorem eql {k : IntKind} {a b : Int} (hx : ev e x = .int k a) (hy : ev e y = .int k b) : Pure P e (.binOp .eql t x y t') (.bool (decide (a = b))) := by
  intro w d ty pos after g; simp [execOp, hx, hy, eqGuard, binOp, Op.intCmp]; rfl
theorem neq {k : IntKind} {a b : Int} (hx : ev e x = .int k a) (hy : ev e y = .int k b) : Pure P e (.binOp .neq t x y t') (.bool (decide (a ≠ b))) := by
  intro w d ty pos after g; simp [execOp, hx, hy, eqGuard, binOp, Op.intCmp]
  by_cases h : a = b <;> simp [h]
theorem not_ {b : Bool} (hx : ev e x = .bool b) : Pure P e (.unOp .not t x) (.bool (!b)) := by
  intro w d ty pos after g; simp [execOp, hx, Op.unary]
theorem notD {p : Prop} {dp : Decidable p} (hx : ev e x = .bool (decide p)) : Pure P e (.unOp .not t x) (.bool (decide ¬ p)) := by
  intro w d ty pos after g; simp [execOp, hx, Op.unary]
theorem neg {a : Int} (hx : ev e x = .int .i64 a) (h : -9223372036854775807 ≤ a ∧ a ≤ 9223372036854775807) : Pure P e (.unOp .neg t x) (.int .i64 (-a)) := by
  intro w d ty pos after g; simp [execOp, hx, Op.unary, Op.intArith, i64_in _ (show -9223372036854775808 ≤ -a ∧ -a ≤ 9223372036854775807 by omega)]

/-! ### strings -/
/-- the order of texts, byte by byte -/
def slt (a b : ByteArray) : Prop := Op.bytesLess a.toList b.toList = true
instance (a b : ByteArray) : Decidable (slt a b) := inferInstanceAs (Decidable (_ = true))
theorem toList_inj {a b : ByteArray} (h : a.toList = b.toList) : a = b := by
  rw [ByteArray.toList_eq, ByteArray.toList_eq] at h
  exact ByteArray.ext (Array.toList_inj.1 h)
theorem toList_beq (a b : ByteArray) : (a.toList == b.toList) = decide (a = b) := by
  by_cases h : a = b
  · subst h; simp
  · have : a.toList ≠ b.toList := fun h' => h (toList_inj h')
    simp [h, this]
theorem bytesLess_total : ∀ (x y : List UInt8), Op.bytesLess x y = !(Op.bytesLess y x || (y == x))
  | [], [] => rfl
  | [], _ :: _ => by simp [Op.bytesLess]
  | _ :: _, [] => by simp [Op.bytesLess]
  | a :: x, b :: y => by
    have ih := bytesLess_total x y
    simp only [Op.bytesLess, List.cons_beq_cons, ih]
    by_cases h1 : a < b
    · have h2 : ¬ b < a := by simp only [UInt8.lt_iff_toNat_lt] at *; omega
      have h3 : (b == a) = false := by simp only [beq_eq_false_iff_ne]; intro h; subst h; exact h2 h1
      simp [h1, h2, h3]
    · by_cases h2 : b < a
      · have h3 : (a == b) = false := by simp only [beq_eq_false_iff_ne]; intro h; subst h; exact h1 h2
        simp [h1, h2, h3]
      · have h3 : a = b := by apply UInt8.toNat_inj.1; simp only [UInt8.lt_iff_toNat_lt] at *; omega
        subst h3
        simp [h1]
theorem slt_dec (a b : ByteArray) : decide (slt a b) = Op.bytesLess a.toList b.toList := by
  by_cases h : slt a b
  · rw [decide_eq_true h]; exact h.symm
  · rw [decide_eq_false h]; cases hq : Op.bytesLess a.toList b.toList
    · rfl
    · exact absurd hq h
theorem slt_not (a b : ByteArray) : decide (¬ slt a b) = (Op.bytesLess b.toList a.toList || (b.toList == a.toList)) := by
  rw [decide_not, slt_dec, bytesLess_total a.toList b.toList, Bool.not_not]
theorem seql {a b : ByteArray} (hx : ev e x = .string a) (hy : ev e y = .string b) : Pure P e (.binOp .eql t x y t') (.bool (decide (a = b))) := by
  intro w d ty pos after g; simp [execOp, hx, hy, eqGuard, binOp, Op.stringOp, toList_beq]
theorem sneq {a b : ByteArray} (hx : ev e x = .string a) (hy : ev e y = .string b) : Pure P e (.binOp .neq t x y t') (.bool (decide (a ≠ b))) := by
  intro w d ty pos after g; simp [execOp, hx, hy, eqGuard, binOp, Op.stringOp, toList_beq]
theorem slss {a b : ByteArray} (hx : ev e x = .string a) (hy : ev e y = .string b) : Pure P e (.binOp .lss t x y t') (.bool (decide (slt a b))) := by
  intro w d ty pos after g; simp [execOp, hx, hy, eqGuard, binOp, Op.stringOp, slt_dec]
theorem sleq {a b : ByteArray} (hx : ev e x = .string a) (hy : ev e y = .string b) : Pure P e (.binOp .leq t x y t') (.bool (decide (¬ slt b a))) := by
  intro w d ty pos after g; rw [slt_not]; simp [execOp, hx, hy, eqGuard, binOp, Op.stringOp]
theorem sgtr {a b : ByteArray} (hx : ev e x = .string a) (hy : ev e y = .string b) : Pure P e (.binOp .gtr t x y t') (.bool (decide (slt b a))) := by
  intro w d ty pos after g
  have h : decide (slt b a) = !(Op.bytesLess a.toList b.toList || (a.toList == b.toList)) := by rw [← slt_not]; simp
  rw [h]; simp [execOp, hx, hy, eqGuard, binOp, Op.stringOp]
theorem sgeq {a b : ByteArray} (hx : ev e x = .string a) (hy : ev e y = .string b) : Pure P e (.binOp .geq t x y t') (.bool (decide (¬ slt a b))) := by
  intro w d ty pos after g; rw [decide_not, slt_dec]; simp [execOp, hx, hy, eqGuard, binOp, Op.stringOp]

/-! ### lengths, places -/
theorem len_sl {a : Option Addr} {n c : Nat} {ty' : TypeId} {el : TypeId} [hu : Und P ty' (.slice el)] (hx : ev e x = .slice a n c) : Pure P e (.call { callee := .builtin .len, args := #[x], argTypes := #[ty'] }) (.int .i64 (n : Int)) := by
  intro w d ty pos after g; simp [execOp, resolve, invoke, builtin, Builtin.len_, hx, run_und hu.h, goInt]
theorem len_str {s : ByteArray} {ty' : TypeId} [hu : Und P ty' .string] (hx : ev e x = .string s) : Pure P e (.call { callee := .builtin .len, args := #[x], argTypes := #[ty'] }) (.int .i64 (s.size : Int)) := by
  intro w d ty pos after g; simp [execOp, resolve, invoke, builtin, Builtin.len_, hx, run_und hu.h, goInt]
theorem run_fieldPlace {f : Field} {i : TypeInfo} {a : Addr} (hi : P.info? f.type = some i) (hz : i.size ≠ 0) (w : World) : (fieldPlace a f).run P w = .ok (a.add f.offset) w := by
  simp [fieldPlace, run_size hi, hz]
theorem run_fieldAt {s : TypeId} {f off : Nat} {ft : TypeId} (hf : Fld P s f off ft) (a : Addr) (w : World) : (Instr.fieldAt s (.pointer (some a)) f).run P w = .ok (.pointer (some (a.add off))) w := by
  obtain ⟨fs, fld, i, h1, h2, h3, h4, h5, h6⟩ := hf.h
  subst h4
  subst h3
  simp [Instr.fieldAt, run_und h1, h2, Instr.sureAddr, run_fieldPlace h5 h6]
theorem fa_box {s : TypeId} {f off : Nat} {ft : TypeId} [hf : Fld P s f off ft] {b k : Nat} (hx : ev e x = .pointer (some ⟨b, k, none⟩)) : Pure P e (.fieldAddr s x f) (.pointer (some ⟨b, k + off, none⟩)) := by
  intro w d ty pos after g
  simp only [execOp, hx]
  simp [run_fieldAt hf, addr_add]
theorem fa_el {s : TypeId} {f off : Nat} {ft : TypeId} [hf : Fld P s f off ft] {p : Addr} (hs : p.spot = none) {k : Nat} (hx : ev e x = elp (some p) k) : Pure P e (.fieldAddr s x f) (elp (some p) (k + off)) := by
  intro w d ty pos after g
  simp only [execOp, hx, elp, Option.map]
  simp [run_fieldAt hf, addr_add_add p hs]
theorem nilck {a : Addr} (hx : ev e x = .pointer (some a)) : Pure P e (.nilCheck x) (.pointer (some a)) := by
  intro w d ty pos after g; simp [execOp, hx]
theorem ex0 {v : Value} {vs : List Value} (hx : ev e x = .tuple (v :: vs).toArray) : Pure P e (.extract x 0) v := by
  intro w d ty pos after g; simp [execOp, hx, Instr.extract]
theorem ex1 {u v : Value} {vs : List Value} (hx : ev e x = .tuple (u :: v :: vs).toArray) : Pure P e (.extract x 1) v := by
  intro w d ty pos after g; simp [execOp, hx, Instr.extract]
theorem ex2 {s u v : Value} {vs : List Value} (hx : ev e x = .tuple (s :: u :: v :: vs).toArray) : Pure P e (.extract x 2) v := by
  intro w d ty pos after g; simp [execOp, hx, Instr.extract]
theorem mkfn {f : Fn} {first captured : List Operand} : Pure P e (.makeFunc f first.toArray captured.toArray) (.func f (first.map (ev e)).toArray (captured.map (ev e)).toArray) := by
  intro w d ty pos after g; simp [execOp, Instr.makeFunc]
theorem run_indexAt {tt el : TypeId} (hu : P.underlying tt = some (.slice el)) {i : TypeInfo} (hi : P.info? el = some i) (p : Addr) (n c : Nat) (k : Nat) (hk : k < n) (w : World) :
    (Instr.indexAt tt (.slice (some p) n c) (.int .i64 (k : Int))).run P w = .ok (.pointer (some (p.add (k * i.size)))) w := by
  simp [Instr.indexAt, asIntOf, run_und hu, run_size hi, hk]
theorem ix {tt el : TypeId} {sz by_ : Nat} {z : Value} [hu : Und P tt (.slice el)] [hi : Inf P el sz by_ z] {p : Addr} {n c : Nat} {j : Int} {k : Nat} (hx : ev e x = .slice (some p) n c) (hy : ev e y = .int .i64 j) (hj : j = (k : Int)) (hk : k < n) :
    Pure P e (.indexAddr tt x y) (elp (some p) (k * sz)) := by
  intro w d ty pos after g
  obtain ⟨i, h1, h2, h3, h4⟩ := hi.h
  subst h2
  simp only [execOp, hx, hy, hj]
  simp [run_indexAt hu.h h1 p n c k hk, elp]
theorem ix_str {s : ByteArray} {tt : TypeId} [hu : Und P tt .string] {j : Int} {k : Nat} (hx : ev e x = .string s) (hy : ev e y = .int .i64 j) (hj : j = (k : Int)) (hk : k < s.size) :
    Pure P e (.index tt x y) (.int .u8 ((s[k]).toNat : Int)) := by
  intro w d ty pos after g
  simp [execOp, hx, hy, hj, Instr.index, asIntOf, run_und hu.h, hk]

/-! ### loads -/
theorem run_load1 {P : Program} {t : TypeId} [hf : Flat P t] {a : Addr} {v : Value} {w : World} (hc : w.cell? a = some v) : (Instr.loadAt t (.pointer (some a))).run P w = .ok v w := by
  obtain ⟨d, h1, h2⟩ := hf.h
  simp [Instr.loadAt, Instr.sureAddr, loadVar, run_isAgg h1, h2, hc]
theorem run_loadS {P : Program} {t : TypeId} {sz : Nat} [hf : Agg P t sz] {a : Addr} {cs : List Value} {w : World} (hl : cs.length = sz) (hc : ∀ j v, cs[j]? = some v → w.cell? (a.add j) = some v) :
    (Instr.loadAt t (.pointer (some a))).run P w = .ok (.agg cs.toArray) w := by
  obtain ⟨d, i, h1, h2, h3, h4⟩ := hf.h
  have h5 := run_loadCells_list (P := P) w a cs hc
  rw [hl, ← h4] at h5
  simp [Instr.loadAt, Instr.sureAddr, loadVar, run_isAgg h1, h2, run_size h3, h5]
theorem Box.cell {B : Nat} {w : World} {b : Nat} {T : TypeId} {cs : List Value} (h : Box B w b T cs) {k : Nat} {v : Value} (hk : cs[k]? = some v) : w.cell? ⟨b, k, none⟩ = some v := by
  rw [cell_of_row w b k cs.toArray T (0, 0) h.at_]; simpa using hk
theorem ld_box {B b k : Nat} {T : TypeId} {cs : List Value} {v : Value} [hf : Flat P t] (hx : ev e x = .pointer (some ⟨b, k, none⟩)) (hb : Box B w b T cs) (hv : cs[k]? = some v) : Does P e w (.load t x) v := by
  intro w' hw' d ty pos after g
  simp only [execOp, hx]
  simp [run_load1 ((hb.ext hw').cell hv)]
theorem ldS_box {B b k sz : Nat} {T : TypeId} {cs cs' : List Value} [hf : Agg P t sz] (hx : ev e x = .pointer (some ⟨b, k, none⟩)) (hb : Box B w b T cs) (hl : k + sz ≤ cs.length) (hc : (cs.drop k).take sz = cs') : Does P e w (.load t x) (.agg cs'.toArray) := by
  intro w' hw' d ty pos after g
  simp only [execOp, hx]
  subst hc
  have hr := run_loadS (P := P) (t := t) (sz := sz) (a := ⟨b, k, none⟩) (cs := (cs.drop k).take sz) (w := w') (by simp; omega) (fun j v hj => by
    rw [addr_add _ rfl]
    refine (hb.ext hw').cell ?_
    rw [List.getElem?_take] at hj
    split at hj
    · simpa using hj
    · cases hj)
  simp [hr]
theorem ld_el {α : Type} [Lies α] {w0 : World} {p : Addr} {l : List α} {i off m : Nat} {v : Value} [hf : Flat P t] (hx : ev e x = elp (some p) m) (hl : Sl w0 (some p) l) (H : Ext w0 w) (hm : m = i * Lies.sz α + off) (hi : i < l.length) (hv : (Lies.enc l[i])[off]? = some v) : Does P e w (.load t x) v := by
  intro w' hw' d ty pos after g
  subst hm
  simp only [execOp, hx, elp, Option.map]
  simp [run_load1 ((hl.ext (H.trans hw')).cell hi hv)]
theorem ld_e0 {α : Type} [Lies α] {w0 : World} {p : Addr} {l : List α} {i m : Nat} {v : Value} [hf : Flat P t] (hx : ev e x = elp (some p) m) (hl : Sl w0 (some p) l) (H : Ext w0 w) (hm : m = i * Lies.sz α) (hi : i < l.length) (hv : (Lies.enc l[i])[0]? = some v) : Does P e w (.load t x) v :=
  ld_el hx hl H (off := 0) hm hi hv
theorem ldS_el {α : Type} [Lies α] {w0 : World} {p : Addr} {l : List α} {i m sz : Nat} [hf : Agg P t sz] (hx : ev e x = elp (some p) m) (hl : Sl w0 (some p) l) (H : Ext w0 w) (hm : m = i * Lies.sz α) (hsz : Lies.sz α = sz) (hi : i < l.length) : Does P e w (.load t x) (.agg (Lies.enc l[i]).toArray) := by
  intro w' hw' d ty pos after g
  subst hm
  simp only [execOp, hx, elp, Option.map]
  have hr := run_loadS (P := P) (t := t) (sz := sz) (a := p.add (i * Lies.sz α)) (cs := Lies.enc l[i]) (w := w') (by rw [Lies.len, hsz]) (fun j v hj => ((hl.ext (H.trans hw')).row hi).cell hj)
  simp [hr]
end

/-! ### the rules of regions -/
section
variable {P : Program} {n : Nat} {ops : Array Oper} {l : List Oper} {K : Env → World → Prop} {el : List (Nat × Value)} {b : Env} {w : World} {dt : Nat} {op : Op} {ty : TypeId} {pos : String} {after : Array Edge} {v : Value}

theorem RL.r (h : Pure P (look el b) op v) (hd : Nat.blt dt n = true) (k : RL P n ops l K (look ((dt, v) :: el) b) w) : RL P n ops (⟨some dt, op, ty, pos, after, none⟩ :: l) K (look el b) w :=
  RL.val' (fun _ _ => wanted_none rfl _) hd (h w _ _ _ _ _) k
theorem RL.m (h : Does P (look el b) w op v) (hd : Nat.blt dt n = true) (k : RL P n ops l K (look ((dt, v) :: el) b) w) : RL P n ops (⟨some dt, op, ty, pos, after, none⟩ :: l) K (look el b) w :=
  RL.val' (fun _ _ => wanted_none rfl _) hd (h w (Ext.refl w) _ _ _ _ _) k
/-- a move of a test: the ways part -/
theorem RL.part {x : Operand} {p : Prop} {dp : Decidable p} (hx : ev (look el b) x = .bool (@decide p dp)) (hd : Nat.blt dt n = true)
    (ht : p → RL P n ops l K (look ((dt, .bool true) :: el) b) w) (hf : ¬ p → RL P n ops l K (look ((dt, .bool false) :: el) b) w) : RL P n ops (⟨some dt, .move x, ty, pos, after, none⟩ :: l) K (look el b) w := by
  by_cases h : p
  · refine RL.r (v := .bool true) ?_ hd (ht h)
    have := mv (P := P) (e := look el b) x
    rwa [hx, decide_eq_true h] at this
  · refine RL.r (v := .bool false) ?_ hd (hf h)
    have := mv (P := P) (e := look el b) x
    rwa [hx, decide_eq_false h] at this
theorem RL.mvT {x : Operand} {p : Prop} {dp : Decidable p} (hx : ev (look el b) x = .bool (@decide p dp)) (h : p) (hd : Nat.blt dt n = true)
    (k : RL P n ops l K (look ((dt, .bool true) :: el) b) w) : RL P n ops (⟨some dt, .move x, ty, pos, after, none⟩ :: l) K (look el b) w :=
  RL.part hx hd (fun _ => k) (fun hn => absurd h hn)
theorem RL.mvF {x : Operand} {p : Prop} {dp : Decidable p} (hx : ev (look el b) x = .bool (@decide p dp)) (h : ¬ p) (hd : Nat.blt dt n = true)
    (k : RL P n ops l K (look ((dt, .bool false) :: el) b) w) : RL P n ops (⟨some dt, .move x, ty, pos, after, none⟩ :: l) K (look el b) w :=
  RL.part hx hd (fun hp => absurd hp h) (fun _ => k)
/-- the guard says no -/
theorem RL.no {j dj : Nat} {want c : Bool} (hj : (ops[j]?).bind (·.dst) = some dj) (he : look el b dj = .bool c) (hc : (c == want) = false) (hd : Nat.blt dt n = true)
    (k : RL P n ops l K (look ((dt, undef) :: el) b) w) : RL P n ops (⟨some dt, op, ty, pos, after, some (j, want)⟩ :: l) K (look el b) w :=
  RL.pass' (fun a ha => by rw [wanted_guard rfl hj he a ha]; exact hc) hd k
/-- the guard says yes: the rule is the one without a guard -/
theorem RL.yes {j dj : Nat} {want c : Bool} (hj : (ops[j]?).bind (·.dst) = some dj) (he : look el b dj = .bool c) (hc : (c == want) = true)
    (k : RL P n ops (⟨some dt, op, ty, pos, after, none⟩ :: l) K (look el b) w) : RL P n ops (⟨some dt, op, ty, pos, after, some (j, want)⟩ :: l) K (look el b) w := by
  unfold RL at k ⊢
  intro a ha
  have h1 := k a ha
  have hw : Region.wanted ⟨some dt, op, ty, pos, after, some (j, want)⟩ (yielded ops a.tmps) = true := by rw [wanted_guard rfl hj he a ha]; exact hc
  unfold wpList at h1 ⊢
  rw [if_pos hw]
  rw [if_pos (wanted_none rfl _)] at h1
  exact h1
end
end Go.Eng
