/-
  Structs of strings and ints: compared, and as keys of maps.
-/
import Derived.Test.YtbggmjnhfacjpaaRng
import Derived.WideKeyRuns
set_option linter.unusedVariables false
namespace Go.Eng
open Go Go.RowKit

section
variable {P : Program} {t s : TypeId} {f0 f1 f2 g0 g1 : Field}
theorem part_flat {d : TypeDesc} {ft : TypeId} (h : P.underlying ft = some d) (hd : aggDesc d = false) {cs : List Value} {k : Nat} {v : Value} (hk : cs[k]? = some v) (w : World) : (part ft cs.toArray k).run P w = .ok v w := by
  have : (isAgg ft).run P w = .ok false w := by
    simp only [isAgg, Sem.run_bind, run_und h, Result.andThen_ok]
    cases d <;> first | rfl | cases hd
  have hg : cs.toArray[k]? = some v := by simpa using hk
  simp [part, this, hg]
/-- Part: a string, an int -/
structure PairT (P : Program) (s : TypeId) (g0 g1 : Field) : Prop where
  hu : P.underlying s = some (.struct #[g0, g1])
  hp : P.stoodInHeld s = false
  hs : P.underlying g0.type = some .string
  hn : P.underlying g1.type = some (.int .i64)
  o0 : g0.offset = 0
  o1 : g1.offset = 1
  m0 : g0.name ≠ "_"
  m1 : g1.name ≠ "_"
  hi : ∃ i, P.info? s = some i ∧ i.size = 2
theorem PairT.eq (h : PairT P s g0 g1) (a a' : ByteArray) (b b' : Int) (n : Nat) (w : World) :
    (Op.equalIn (n + 2) s (.agg #[.string a, .int .i64 b]) (.agg #[.string a', .int .i64 b'])).run P w = .ok (decide (a = a' ∧ b = b')) w := by
  have hfs : P.fieldsOf s = #[g0, g1] := by simp [Program.fieldsOf, h.hu]
  rw [run_equalIn_struct w (n + 1) s _ _ (by rw [hfs]; exact h.hu) h.hp, hfs]
  have p1 : ∀ (a : ByteArray) (b : Int), (part g0.type #[Value.string a, .int .i64 b] g0.offset).run P w = .ok (.string a) w := fun a b => part_flat (cs := [Value.string a, .int .i64 b]) h.hs rfl (by rw [h.o0]; rfl) w
  have p2 : ∀ (a : ByteArray) (b : Int), (part g1.type #[Value.string a, .int .i64 b] g1.offset).run P w = .ok (.int .i64 b) w := fun a b => part_flat (cs := [Value.string a, .int .i64 b]) h.hn rfl (by rw [h.o1]; rfl) w
  have q1 := fun (a b : ByteArray) (w : World) => run_equalIn_string (P := P) w n g0.type a b h.hs
  have q2 := fun (a b : Int) (w : World) => run_equalIn_int (P := P) w n g1.type .i64 .i64 a b h.hn
  simp only [Op.eqFields, h.m0, h.m1, ne_eq, not_false_eq_true, if_true, Sem.run_bind, p1, Result.andThen_ok, q1, toList_beq]
  by_cases h1 : a = a'
  · by_cases h2 : b = b'
    · subst h1; subst h2; simp [p2, q2]
    · have h3 : (b == b') = false := by simpa using h2
      simp [h1, h2, p2, q2, h3]
  · simp [h1]
theorem PairT.isAgg (h : PairT P s g0 g1) (w : World) : (isAgg s).run P w = .ok true w := by
  simp [Go.isAgg, run_und h.hu]
theorem PairT.part (h : PairT P s g0 g1) {cs : List Value} {k : Nat} {x y : Value} (hk : (cs.drop k).take 2 = [x, y]) (w : World) : (part s cs.toArray k).run P w = .ok (.agg #[x, y]) w := by
  obtain ⟨i, h1, h2⟩ := h.hi
  have hsz : (sizeOf s).run P w = .ok 2 w := by simp [sizeOf, typeInfo, h1, h2]
  simp [Go.part, h.isAgg, hsz, hk]
theorem PairT.check (h : PairT P s g0 g1) (a : ByteArray) (b : Int) (em : Bool) (n : Nat) (w : World) : (Instr.checkKey em (n + 2) s (.agg #[.string a, .int .i64 b])).run P w = .ok () w := by
  have p1 : (Go.part g0.type #[Value.string a, .int .i64 b] g0.offset).run P w = .ok (.string a) w := part_flat (cs := [Value.string a, .int .i64 b]) h.hs rfl (by rw [h.o0]; rfl) w
  have p2 : (Go.part g1.type #[Value.string a, .int .i64 b] g1.offset).run P w = .ok (.int .i64 b) w := part_flat (cs := [Value.string a, .int .i64 b]) h.hn rfl (by rw [h.o1]; rfl) w
  have c1 := MapKept.run_checkKey (P := P) (w := w) h.hs (d := .string) (k := .string a) trivial em n
  have c2 := MapKept.run_checkKey (P := P) (w := w) h.hn (d := .int .i64) (k := .int .i64 b) rfl em n
  unfold Instr.checkKey
  simp [run_und h.hu, h.m0, h.m1, p1, p2, c1, c2]
/-- a struct of a string and a pair -/
structure KeyS (P : Program) (t s : TypeId) (f0 f1 g0 g1 : Field) : Prop where
  pr : PairT P s g0 g1
  hu : P.underlying t = some (.struct #[f0, f1])
  hp : P.stoodInHeld t = false
  hs : P.underlying f0.type = some .string
  hn : f1.type = s
  o0 : f0.offset = 0
  o1 : f1.offset = 1
  m0 : f0.name ≠ "_"
  m1 : f1.name ≠ "_"
theorem KeyS.eq (h : KeyS P t s f0 f1 g0 g1) (x y : MKey) (n : Nat) (w : World) :
    (Op.equalIn (n + 3) t (.agg (Lies.enc x).toArray) (.agg (Lies.enc y).toArray)).run P w = .ok (decide (x = y)) w := by
  have hfs : P.fieldsOf t = #[f0, f1] := by simp [Program.fieldsOf, h.hu]
  rw [run_equalIn_struct w (n + 2) t _ _ (by rw [hfs]; exact h.hu) h.hp, hfs]
  have p1 : ∀ x : MKey, (Go.part f0.type (Lies.enc x).toArray f0.offset).run P w = .ok (.string x.group) w := fun x => part_flat h.hs rfl (by rw [h.o0]; rfl) w
  have p2 : ∀ x : MKey, (Go.part f1.type (Lies.enc x).toArray f1.offset).run P w = .ok (.agg #[.string x.topic, .int .i64 x.n]) w := fun x => by rw [h.hn, h.o1]; exact h.pr.part rfl w
  have q1 := fun (a b : ByteArray) (w : World) => run_equalIn_string (P := P) w (n + 1) f0.type a b h.hs
  have q2 := fun (a a' : ByteArray) (b b' : Int) (w : World) => h.pr.eq a a' b b' n w
  rw [← h.hn] at q2
  simp only [Op.eqFields, h.m0, h.m1, ne_eq, not_false_eq_true, if_true, Sem.run_bind, p1, Result.andThen_ok, q1, toList_beq]
  have hxy : x = y ↔ x.group = y.group ∧ x.topic = y.topic ∧ x.n = y.n := by
    cases x; cases y; simp
  by_cases h1 : x.group = y.group
  · by_cases h2 : x.topic = y.topic ∧ x.n = y.n
    · simp [h1, p2, q2, hxy, h2]
    · have : decide (x.topic = y.topic ∧ x.n = y.n) = false := decide_eq_false h2
      simp [h1, p2, q2, hxy, this]
  · simp [h1, hxy]
theorem KeyS.check (h : KeyS P t s f0 f1 g0 g1) (x : MKey) (em : Bool) (n : Nat) (w : World) : (Instr.checkKey em (n + 3) t (.agg (Lies.enc x).toArray)).run P w = .ok () w := by
  have p1 : (Go.part f0.type (Lies.enc x).toArray f0.offset).run P w = .ok (.string x.group) w := part_flat h.hs rfl (by rw [h.o0]; rfl) w
  have p2 : (Go.part f1.type (Lies.enc x).toArray f1.offset).run P w = .ok (.agg #[.string x.topic, .int .i64 x.n]) w := by rw [h.hn, h.o1]; exact h.pr.part rfl w
  have c1 := MapKept.run_checkKey (P := P) (w := w) h.hs (d := .string) (k := .string x.group) trivial em (n + 1)
  have c2 := h.pr.check x.topic x.n em n w
  rw [← h.hn] at c2
  unfold Instr.checkKey
  simp [run_und h.hu, h.m0, h.m1, p1, p2, c1, c2]
theorem KeyS.asking (h : KeyS P t s f0 f1 g0 g1) (k : MKey) : ∀ (ks : List MKey) (es : List MapEntry) (i : Nat), es.map (·.key) = ks.map (fun x => Value.agg (Lies.enc x).toArray) → ∀ w, (Instr.findAsking t (.agg (Lies.enc k).toArray) es i).run P w = .ok (findK k ks es i) w
  | [], [], i, _, w => rfl
  | [], e :: es, i, h, w => by simp at h
  | k' :: ks, [], i, h, w => by simp at h
  | k' :: ks, e :: es, i, hh, w => by
    simp only [List.map_cons, List.cons.injEq] at hh
    have ih := h.asking k ks es (i + 1) hh.2 w
    unfold Instr.findAsking findK
    have hq := h.eq k k' 9997 w
    simp only [Sem.run_bind, Op.equal, hh.1]
    rw [show Op.maxDepth = 9997 + 3 from rfl, hq]
    by_cases hk : k = k'
    · subst hk; simp
    · simp [hk, ih]
@[reducible] def KeyS.keyT (h : KeyS P t s f0 f1 g0 g1) : KeyT P t MKey where
  enc k := .agg (Lies.enc k).toArray
  find k ks es hh w := by
    rw [run_findKey_eq w (by rw [h.hu])]
    exact h.asking k ks es 0 hh w
  check b k w := h.check k b 9997 w
  bits k := by simp [Lies.enc, Instr.sameBits, bytes_beq]
/-- a struct of a string, a pair, and an int -/
structure MarkS (P : Program) (t s : TypeId) (f0 f1 f2 g0 g1 : Field) : Prop where
  pr : PairT P s g0 g1
  hu : P.underlying t = some (.struct #[f0, f1, f2])
  hp : P.stoodInHeld t = false
  hs : P.underlying f0.type = some .string
  hn : f1.type = s
  hi : P.underlying f2.type = some (.int .i64)
  o0 : f0.offset = 0
  o1 : f1.offset = 1
  o2 : f2.offset = 3
  m0 : f0.name ≠ "_"
  m1 : f1.name ≠ "_"
  m2 : f2.name ≠ "_"
theorem MarkS.eqs (h : MarkS P t s f0 f1 f2 g0 g1) (hg : P.eqGuardType P.depth t = false) : EqS P t Mrk := by
  refine ⟨fun x y w => ?_, hg⟩
  have hfs : P.fieldsOf t = #[f0, f1, f2] := by simp [Program.fieldsOf, h.hu]
  rw [run_equalIn_struct w 9999 t _ _ (by rw [hfs]; exact h.hu) h.hp, hfs]
  have p1 : ∀ x : Mrk, (Go.part f0.type (Lies.enc x).toArray f0.offset).run P w = .ok (.string x.group) w := fun x => part_flat h.hs rfl (by rw [h.o0]; rfl) w
  have p2 : ∀ x : Mrk, (Go.part f1.type (Lies.enc x).toArray f1.offset).run P w = .ok (.agg #[.string x.topic, .int .i64 x.n]) w := fun x => by rw [h.hn, h.o1]; exact h.pr.part rfl w
  have p3 : ∀ x : Mrk, (Go.part f2.type (Lies.enc x).toArray f2.offset).run P w = .ok (.int .i64 x.off) w := fun x => part_flat h.hi rfl (by rw [h.o2]; rfl) w
  have q1 := fun (a b : ByteArray) (w : World) => run_equalIn_string (P := P) w 9998 f0.type a b h.hs
  have q2 := fun (a a' : ByteArray) (b b' : Int) (w : World) => h.pr.eq a a' b b' 9997 w
  have q3 := fun (a b : Int) (w : World) => run_equalIn_int (P := P) w 9998 f2.type .i64 .i64 a b h.hi
  rw [← h.hn] at q2
  simp only [Op.eqFields, h.m0, h.m1, h.m2, ne_eq, not_false_eq_true, if_true, Sem.run_bind, p1, Result.andThen_ok, q1, toList_beq]
  have hxy : x = y ↔ x.group = y.group ∧ (x.topic = y.topic ∧ x.n = y.n) ∧ x.off = y.off := by
    cases x; cases y; simp [and_assoc]
  by_cases h1 : x.group = y.group
  · by_cases h2 : x.topic = y.topic ∧ x.n = y.n
    · by_cases h3 : x.off = y.off
      · simp [h1, p2, q2, p3, q3, hxy, h2, h3]
      · have : (x.off == y.off) = false := by simpa using h3
        simp [h1, p2, q2, p3, q3, hxy, h2, h3, this]
    · have : decide (x.topic = y.topic ∧ x.n = y.n) = false := decide_eq_false h2
      simp [h1, p2, q2, hxy, this]
  · simp [h1, hxy]
end

section
variable {X : Nat → Prop} {w0 w w' : World}
theorem Upd.box {b : Nat} (h : Upd X w0 w) (k : Upd (· = b) w w') (hb : w0.heap.size ≤ b) : Upd X w0 w' := Upd.upd h k (fun i hi he => by subst he; omega)
theorem Upd.mp {b : Nat} (h : Upd X w0 w) (k : Upd (· = b) w w') (hb : w0.heap.size ≤ b) : Upd X w0 w' := h.box k hb
theorem Upd.own {α : Type} [Lies α] {T : TypeId} {a : Option Addr} {c : Nat} {l : List α} (H : Upd X w0 w) (h : Own w0.heap.size w T a c l) (k : Upd (inBlock a) w w') : Upd X w0 w' := Upd.upd H k (fun i hi he => by have := (h.blk he).1; omega)
theorem Upd.same (h : Upd X w0 w) (k : Upd X w w') : Upd X w0 w' := Upd.trans h k
end
section
variable {P : Program} {n : Nat} {ops : Array Oper} {l : List Oper} {Kk : Env → World → Prop} {el : List (Nat × Value)} {b e : Env} {w : World} {dt : Nat} {ty : TypeId} {pos : String} {after : Array Edge} {x y z : Operand} {t mt et : TypeId} {K : Type} [DecidableEq K] [KeyT P t K] {B m c : Nat} {lb : List (K × Value × Nat)}
theorem RL.makeM {mt : TypeId} (B : Nat) (hB : B ≤ w.heap.size) (hd : Nat.blt dt n = true) (t : TypeId) (K : Type) [DecidableEq K] [KeyT P t K]
    (k : ∀ w' i, i = w.heap.size → Ext w w' → MpB P t B w' i ([] : List (K × Value × Nat)) 0 → RL P n ops l Kk (look ((dt, .map (some i)) :: el) b) w') :
    RL P n ops (⟨some dt, .makeMap mt none, ty, pos, after, none⟩ :: l) Kk (look el b) w := by
  refine RL.val' (w' := w.alloc (.map #[] 0)) (v := .map (some w.heap.size)) (fun _ _ => wanted_none rfl _) hd ?_ (k _ _ rfl (Ext.alloc _ _) ⟨hB, by simp, ⟨#[], heap_alloc_new w _, by simp⟩, by simp, by simp⟩)
  simp [execOp, Instr.makeMap, newObj, Sem.run]
theorem run_entry {it : Nat} {seen : Array Nat} {q : K × Value × Nat} (hI : ItM w it m c (seen.push q.2.2)) (hm : MpB P t B w m lb c) (hq : q ∈ lb) :
    (Instr.entry (.pointer (some ⟨it, 0, none⟩))).run P w = .ok (.tuple #[KeyT.enc P t q.1, q.2.1]) w := by
  obtain ⟨es, h1, h2⟩ := hm.at_
  have hmem : entM (P := P) (t := t) q ∈ es.toList := by rw [h2]; exact List.mem_map.2 ⟨q, hq, rfl⟩
  have hf : es.find? (fun (e : MapEntry) => e.born == q.2.2) = some (entM (P := P) (t := t) q) := by
    rw [← Array.find?_toList, h2]
    cases hf : (lb.map (entM (P := P) (t := t))).find? (fun (e : MapEntry) => e.born == q.2.2) with
    | none =>
      have := List.find?_eq_none.1 hf (entM (P := P) (t := t) q) (List.mem_map.2 ⟨q, hq, rfl⟩)
      simp [entM] at this
    | some e =>
      have h3 := List.mem_of_find?_eq_some hf
      have h4 := List.find?_some hf
      obtain ⟨y, hy, rfl⟩ := List.mem_map.1 h3
      have h5 : y.2.2 = q.2.2 := by simpa [entM] using h4
      obtain ⟨i, hi, rfl⟩ := List.getElem_of_mem hy
      obtain ⟨j, hj, rfl⟩ := List.getElem_of_mem hq
      have h6 : (lb.map (·.2.2))[i]? = (lb.map (·.2.2))[j]? := by simp [hi, hj, h5]
      have h7 : i = j := (List.getElem?_inj (by simpa using hi) hm.nob).1 h6
      subst h7
      rfl
  simp only [Instr.entry, Sem.run_bind, run_getIt2 hI, Result.andThen_ok]
  simp only [Array.back?_push, run_getObj h1, Sem.run_bind, Result.andThen_ok, bne_self_eq_false, Bool.false_eq_true, if_false, hf]
  rfl
theorem entK {it : Nat} {seen : Array Nat} {q : K × Value × Nat} (hx : ev e x = .pointer (some ⟨it, 0, none⟩)) (hI : ItM w it m c (seen.push q.2.2)) (hm : MpB P t B w m lb c) (hq : q ∈ lb) {v : Value} (hv : q.2.1 = v) : Does P e w (.entry x) (.tuple #[KeyT.enc P t q.1, v]) := by
  subst hv
  intro w' hw' d ty pos after g
  have hr := run_entry (hI.ext hw') (hm.ext hw') hq
  simp only [execOp, hx]
  simp [hr]
theorem lkMI {sz by_ : Nat} [hu : Und P mt (.map t et)] [hi : Inf P et sz by_ (.int .i64 0)] {k : K} {o : Option Int} (hx : ev e x = .map (some m)) (hm : MpB P t B w m lb c) (hy : ev e y = KeyT.enc P t k) (hg : getB lb k = o.map (Value.int .i64)) : Does P e w (.lookup mt x y false) (.int .i64 (o.getD 0)) := by
  have h := lkM (sz := sz) (by_ := by_) (zv := .int .i64 0) (mt := mt) (et := et) hx hm hy
  rw [hg] at h
  cases o <;> exact h
theorem lkOI {sz by_ : Nat} [hu : Und P mt (.map t et)] [hi : Inf P et sz by_ (.int .i64 0)] {k : K} {o : Option Int} (hx : ev e x = .map (some m)) (hm : MpB P t B w m lb c) (hy : ev e y = KeyT.enc P t k) (hg : getB lb k = o.map (Value.int .i64)) : Does P e w (.lookup mt x y true) (.tuple #[.int .i64 (o.getD 0), .bool (decide (o ≠ none))]) := by
  have h := lkO (sz := sz) (by_ := by_) (zv := .int .i64 0) (mt := mt) (et := et) hx hm hy
  rw [hg] at h
  cases o <;> simpa using h
theorem RL.delM0 {kt : TypeId} [hu : Und P mt (.map t et)] {k : K} (hx : ev (look el b) x = .map (some m)) (hm : MpB P t B w m lb c) (hy : ev (look el b) y = KeyT.enc P t k)
    (kk : ∀ w', Upd (· = m) w w' → MpB P t B w' m (delB lb k) c → RL P n ops l Kk (look el b) w') :
    RL P n ops (⟨none, .call { callee := .builtin .delete, args := #[x, y], argTypes := #[mt, kt] }, ty, pos, after, none⟩ :: l) Kk (look el b) w := by
  obtain ⟨w', hr, h1, h2⟩ := run_deleteB (ty := ty) (kt := kt) hu.h hm k
  refine RL.val' (w' := w') (v := .tuple #[]) (fun _ _ => wanted_none rfl _) rfl ?_ (kk w' h1 h2)
  simp [execOp, resolve, invoke, builtin, hx, hy, hr]
end
section
variable {P : Program} {e : Env} {x y : Operand} {w : World} {t : TypeId}
/-- a struct inside an element -/
theorem ldS_ef {α : Type} [Lies α] {w0 : World} {p : Addr} {l : List α} {i off sz m : Nat} [hf : Agg P t sz] (hx : ev e x = elp (some p) m) (hl : Sl w0 (some p) l) (H : Ext w0 w) (hi : i < l.length) (hm : m = i * Lies.sz α + off) (hoff : off + sz ≤ Lies.sz α) : Does P e w (.load t x) (.agg (((Lies.enc l[i]).drop off).take sz).toArray) := by
  intro w' hw' d ty pos after g
  subst hm
  have hs : p.spot = none := hl.1
  simp only [execOp, hx, elp, Option.map]
  have hrow := Row.sub ((hl.ext (H.trans hw')).row hi) off sz (by rw [Lies.len]; exact hoff)
  have hr := run_loadS (P := P) (t := t) (sz := sz) (a := (p.add (i * Lies.sz α)).add off) (cs := ((Lies.enc l[i]).drop off).take sz) (w := w') (by rw [List.length_take, List.length_drop, Lies.len]; omega) (fun j v hj => hrow.cell hj)
  rw [addr_add_add p hs] at hr
  simp [hr]
theorem ix_o {tt el : TypeId} {sz by_ : Nat} {z : Value} [hu : Und P tt (.slice el)] [hi : Inf P el sz by_ z] {a : Option Addr} {n c : Nat} {j : Int} {k : Nat} (hx : ev e x = .slice a n c) (hy : ev e y = .int .i64 j) (hj : j = (k : Int)) (hk : k < n) (ha : a ≠ none) :
    Pure P e (.indexAddr tt x y) (elp a (k * sz)) := by
  cases a with
  | none => exact absurd rfl ha
  | some p => exact ix hx hy hj hk
theorem Sl.someA {α : Type} [Lies α] {w : World} {a : Option Addr} {l : List α} (h : Sl w a l) (hs : 0 < Lies.sz α) {i : Nat} (hi : i < l.length) : a ≠ none := by
  obtain ⟨p, rfl⟩ := h.isAddr hs hi
  exact Option.some_ne_none p
/-- an element of a slice that may be nil -/
theorem ldS_o {α : Type} [Lies α] {w0 : World} {a : Option Addr} {l : List α} {i sz m : Nat} {u : α} [hf : Agg P t sz] (hx : ev e x = elp a m) (hl : Sl w0 a l) (H : Ext w0 w) (hm : m = i * Lies.sz α) (hsz : Lies.sz α = sz) (hs : 0 < Lies.sz α) (hy : l[i]? = some u) : Does P e w (.load t x) (.agg (Lies.enc u).toArray) := by
  obtain ⟨hi, rfl⟩ := List.getElem?_eq_some_iff.1 hy
  obtain ⟨p, rfl⟩ := hl.isAddr hs hi
  exact ldS_el hx hl H hm hsz hi
end
end Go.Eng
