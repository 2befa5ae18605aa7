/-
  Contracts of functions, calls, and the operations that turn memory.
-/
import Derived.Test.YtbggmjnhfacjpaaOps
import Derived.Laws.MakeOwn
import Derived.Laws.Tables
import Derived.Maps.AppendAt
import Derived.Laws.CopyRow
import Derived.Great.BuildSlice
set_option linter.unusedVariables false
namespace Go.Eng
open Go Go.RowKit Go.IntWalk

/-! ### contracts -/
def Entry (P : Program) (f : FuncId) : Prop := ∀ args w, (callFunc f args).run P w = .ok (.enter f args) w
/-- Called with args in w, function f hands back a v in a w' with R v w'. -/
def Ct (P : Program) (f : FuncId) (args : Array Value) (w : World) (R : Value → World → Prop) : Prop :=
  Entry P f ∧ Calls P f args w fun x w' => ∃ v, x = .returned v ∧ R v w'
theorem Ct.mono {P : Program} {f : FuncId} {args : Array Value} {w : World} {R R' : Value → World → Prop} (h : Ct P f args w R) (hr : ∀ v w', R v w' → R' v w') : Ct P f args w R' :=
  ⟨h.1, h.2.mono fun _ _ ⟨v, e, r⟩ => ⟨v, e, hr _ _ r⟩⟩
theorem entry_of {P : Program} {f : FuncId} {fn : Func} {c : Code} (hf : P.funcs[f]? = some fn) (hb : fn.body = some c) (hnm : (fn.name == "runtime.NumGoroutine") = false) : Entry P f := by
  intro args w
  have hn : ¬ fn.name = "runtime.NumGoroutine" := by simpa using hnm
  simp [callFunc, hf, hb, hn, program, Sem.run]

def argE : List Value → Env
  | [], _ => undef
  | v :: _, 0 => v
  | _ :: vs, t + 1 => argE vs t
theorem argE_get : ∀ (vs : List Value) (t : Nat), argE vs t = vs.getD t undef
  | [], t => by simp [argE]
  | v :: vs, 0 => by simp [argE]
  | v :: vs, t + 1 => by simp [argE, argE_get vs t]

def fin0 (R : Value → World → Prop) : Exit → Env → World → Prop
  | .normal, e, w => R (.tuple #[]) w
  | .ret, e, w => R (.tuple #[]) w
  | _, _, _ => False
def fin1 (r : Nat) (R : Value → World → Prop) : Exit → Env → World → Prop
  | .normal, e, w => R (e r) w
  | .ret, e, w => R (e r) w
  | _, _, _ => False
def fin2 (r s : Nat) (R : Value → World → Prop) : Exit → Env → World → Prop
  | .normal, e, w => R (.tuple #[e r, e s]) w
  | .ret, e, w => R (.tuple #[e r, e s]) w
  | _, _, _ => False
def fin3 (r s t : Nat) (R : Value → World → Prop) : Exit → Env → World → Prop
  | .normal, e, w => R (.tuple #[e r, e s, e t]) w
  | .ret, e, w => R (.tuple #[e r, e s, e t]) w
  | _, _, _ => False
/-- one result, that lies in memory -/
def finC (t : Nat) (R : Value → World → Prop) : Exit → Env → World → Prop
  | .normal, e, w => ∃ b T cs B, e t = .pointer (some ⟨b, 0, none⟩) ∧ Box B w b T cs ∧ R (.agg cs.toArray) w
  | .ret, e, w => ∃ b T cs B, e t = .pointer (some ⟨b, 0, none⟩) ∧ Box B w b T cs ∧ R (.agg cs.toArray) w
  | _, _, _ => False

section
variable {P : Program} {f : FuncId} {fn : Func} {c : Code} {n : Nat} {vs : List Value} {w : World} {R : Value → World → Prop}

theorem rel_enter (vs : List Value) (n : Nat) (hle : vs.length ≤ n) : Rel n (look [] (argE vs)) { tmps := vs.toArray ++ Array.replicate (n - vs.toArray.size) undef, defers := [] } := by
  refine ⟨by simp; omega, rfl, fun t => ?_⟩
  show _ = argE vs t
  rw [argE_get]
  simp only [Array.getD_eq_getD_getElem?, Array.getElem?_append, List.getD_eq_getElem?_getD]
  by_cases ht : t < vs.length
  · simp [ht]
  · simp only [List.size_toArray, ht, if_false, Array.getElem?_replicate, List.getElem?_eq_none (Nat.le_of_not_lt ht)]
    split <;> rfl

theorem Ct.intro' {Q : Exit → Env → World → Prop} (hf : P.funcs[f]? = some fn) (hn : fn.ntmps = n) (hb : fn.body = some c) (hnm : (fn.name == "runtime.NumGoroutine") = false) (hle : Nat.ble vs.length n = true)
    (h : WP P n c Q (look [] (argE vs)) w)
    (hq : ∀ x e w, Q x e w → (x = .normal ∨ x = .ret) ∧ ∀ tmps : Array Value, (∀ t, tmps.getD t undef = e t) → ∃ v, (results fn tmps).run P w = .ok v w ∧ R v w) : Ct P f vs.toArray w R := by
  refine ⟨entry_of hf hb hnm, calls_of_wp hf hb ?_⟩
  have hr := rel_enter vs n (Nat.le_of_ble_eq_true hle)
  rw [← hn] at hr h
  unfold WP at h
  refine wp_mono (h _ hr) ?_
  rintro x a w' ⟨e', hr', q⟩
  obtain ⟨hx, hv⟩ := hq _ _ _ q
  obtain ⟨v, h1, h2⟩ := hv a.tmps hr'.env
  rcases hx with rfl | rfl
  · exact ⟨hr'.defers, v, h1, v, rfl, h2⟩
  · exact ⟨hr'.defers, v, h1, v, rfl, h2⟩

theorem Ct.intro0 (hf : P.funcs[f]? = some fn) (hn : fn.ntmps = n) (hb : fn.body = some c) (hr : fn.results = #[]) (hnm : (fn.name == "runtime.NumGoroutine") = false) (hle : Nat.ble vs.length n = true)
    (h : WP P n c (fin0 R) (look [] (argE vs)) w) : Ct P f vs.toArray w R := by
  refine Ct.intro' hf hn hb hnm hle h ?_
  intro x e w q
  cases x with
  | normal => exact ⟨.inl rfl, fun tmps ht => ⟨_, results_none hr tmps P w, q⟩⟩
  | ret => exact ⟨.inr rfl, fun tmps ht => ⟨_, results_none hr tmps P w, q⟩⟩
  | _ => exact q.elim
theorem Ct.intro1 {r : Nat} (hf : P.funcs[f]? = some fn) (hn : fn.ntmps = n) (hb : fn.body = some c) (hr : fn.results = #[.tmp r]) (hnm : (fn.name == "runtime.NumGoroutine") = false) (hle : Nat.ble vs.length n = true)
    (h : WP P n c (fin1 r R) (look [] (argE vs)) w) : Ct P f vs.toArray w R := by
  refine Ct.intro' hf hn hb hnm hle h ?_
  intro x e w q
  cases x with
  | normal => exact ⟨.inl rfl, fun tmps ht => ⟨_, results_tmp hr tmps P w, by rw [ht]; exact q⟩⟩
  | ret => exact ⟨.inr rfl, fun tmps ht => ⟨_, results_tmp hr tmps P w, by rw [ht]; exact q⟩⟩
  | _ => exact q.elim
theorem Ct.intro2 {r s : Nat} (hf : P.funcs[f]? = some fn) (hn : fn.ntmps = n) (hb : fn.body = some c) (hr : fn.results = #[.tmp r, .tmp s]) (hnm : (fn.name == "runtime.NumGoroutine") = false) (hle : Nat.ble vs.length n = true)
    (h : WP P n c (fin2 r s R) (look [] (argE vs)) w) : Ct P f vs.toArray w R := by
  refine Ct.intro' hf hn hb hnm hle h ?_
  intro x e w q
  cases x with
  | normal => exact ⟨.inl rfl, fun tmps ht => ⟨_, results_tmp2 hr tmps P w, by rw [ht, ht]; exact q⟩⟩
  | ret => exact ⟨.inr rfl, fun tmps ht => ⟨_, results_tmp2 hr tmps P w, by rw [ht, ht]; exact q⟩⟩
  | _ => exact q.elim
theorem results_tmp3' {fn : Func} {t u s : Tmp} (h : fn.results = #[.tmp t, .tmp u, .tmp s]) (tmps : Array Value) (P : Program) (w : World) :
    (results fn tmps).run P w = .ok (.tuple #[tmps.getD t undef, tmps.getD u undef, tmps.getD s undef]) w := by
  simp [results, h]
theorem Ct.intro3 {r s t : Nat} (hf : P.funcs[f]? = some fn) (hn : fn.ntmps = n) (hb : fn.body = some c) (hr : fn.results = #[.tmp r, .tmp s, .tmp t]) (hnm : (fn.name == "runtime.NumGoroutine") = false) (hle : Nat.ble vs.length n = true)
    (h : WP P n c (fin3 r s t R) (look [] (argE vs)) w) : Ct P f vs.toArray w R := by
  refine Ct.intro' hf hn hb hnm hle h ?_
  intro x e w q
  cases x with
  | normal => exact ⟨.inl rfl, fun tmps ht => ⟨_, results_tmp3' hr tmps P w, by rw [ht, ht, ht]; exact q⟩⟩
  | ret => exact ⟨.inr rfl, fun tmps ht => ⟨_, results_tmp3' hr tmps P w, by rw [ht, ht, ht]; exact q⟩⟩
  | _ => exact q.elim
theorem Box.length_size {B : Nat} {b : Nat} {T : TypeId} {cs : List Value} (h : Box B w b T cs) : True := trivial
theorem Ct.introC {t : Nat} {T : TypeId} {sz : Nat} [hA : Agg P T sz] (hf : P.funcs[f]? = some fn) (hn : fn.ntmps = n) (hb : fn.body = some c) (hr : fn.results = #[.cell t T]) (hnm : (fn.name == "runtime.NumGoroutine") = false) (hle : Nat.ble vs.length n = true)
    (h : WP P n c (finC t (fun v w => (∃ cs : List Value, v = .agg cs.toArray ∧ cs.length = sz) ∧ R v w)) (look [] (argE vs)) w) : Ct P f vs.toArray w R := by
  refine Ct.intro' hf hn hb hnm hle h ?_
  obtain ⟨d, i, h1, h2, h3, h4⟩ := hA.h
  have key : ∀ e w, finC t (fun v w => (∃ cs : List Value, v = .agg cs.toArray ∧ cs.length = sz) ∧ R v w) .ret e w → ∀ tmps : Array Value, (∀ t, tmps.getD t undef = e t) → ∃ v, (results fn tmps).run P w = .ok v w ∧ R v w := by
    rintro e w ⟨b, T', cs, B, he, hb, ⟨cs', hcs, hl⟩, hR⟩ tmps ht
    have e1 : cs = cs' := by injection hcs with hcs; exact List.toArray_inj hcs
    subst e1
    refine ⟨_, results_cell_row hr tmps w b T' cs.toArray (0, 0) d (by rw [ht]; exact he) hb.at_ h1 ?_ ?_, hR⟩
    · cases d <;> first | rfl | cases h2
    · simp [h3, h4, hl]
  intro x e w q
  cases x with
  | normal => exact ⟨.inl rfl, key e w q⟩
  | ret => exact ⟨.inr rfl, key e w q⟩
  | _ => exact q.elim

theorem fin1_ret {r : Nat} {e : Env} {v : Value} (hv : e r = v) (h : R v w) : fin1 r R .ret e w := by subst hv; exact h
theorem fin1_end {r : Nat} {e : Env} {v : Value} (hv : e r = v) (h : R v w) : fin1 r R .normal e w := by subst hv; exact h
theorem fin2_ret {r s : Nat} {e : Env} {v u : Value} (hv : e r = v) (hu : e s = u) (h : R (.tuple #[v, u]) w) : fin2 r s R .ret e w := by subst hv; subst hu; exact h
theorem fin3_ret {r s t : Nat} {e : Env} {v u x : Value} (hv : e r = v) (hu : e s = u) (hx : e t = x) (h : R (.tuple #[v, u, x]) w) : fin3 r s t R .ret e w := by subst hv; subst hu; subst hx; exact h
theorem fin0_ret {e : Env} (h : R (.tuple #[]) w) : fin0 R .ret e w := h
theorem fin0_end {e : Env} (h : R (.tuple #[]) w) : fin0 R .normal e w := h
theorem finC_ret {t b : Nat} {T : TypeId} {cs : List Value} {B : Nat} {e : Env} (he : e t = .pointer (some ⟨b, 0, none⟩)) (hb : Box B w b T cs) (h : R (.agg cs.toArray) w) : finC t R .ret e w := ⟨b, T, cs, B, he, hb, h⟩
end
attribute [irreducible] fin0 fin1 fin2 fin3 finC

/-! ### calls -/
section
variable {P : Program} {n : Nat} {ops : Array Oper} {l : List Oper} {K : Env → World → Prop} {el : List (Nat × Value)} {b : Env} {w : World} {dt : Nat} {op : Op} {ty : TypeId} {pos : String} {after : Array Edge} {v : Value}

theorem run_call {ρ : Operand → Value} {f : FuncId} {xs : List Operand} {at_ : Array TypeId} {first captured : List Value} {fo : Operand} (hfo : ρ fo = .func (.func f) first.toArray captured.toArray) (he : Entry P f) (d : Option Tmp) (g : Option (Nat × Bool)) (w : World) :
    (execOp ρ ⟨d, .call { callee := .value fo, args := xs.toArray, argTypes := at_ }, ty, pos, after, g⟩).run P w = .ok (.enter f (first ++ (xs.map ρ) ++ captured).toArray) w := by
  have he' := he (first ++ (xs.map ρ ++ captured)).toArray w
  simp [execOp, resolve, hfo, Deferred.ofValue, invoke, he']
theorem RL.call {f : FuncId} {xs : List Operand} {at_ : Array TypeId} {vs : List Value} {R : Value → World → Prop} (hc : Ct P f vs.toArray w R) (ha : xs.map (ev (look el b)) = vs) (hd : Nat.blt dt n = true)
    (k : ∀ v w', R v w' → RL P n ops l K (look ((dt, v) :: el) b) w') :
    RL P n ops (⟨some dt, .call { callee := .value (.func f), args := xs.toArray, argTypes := at_ }, ty, pos, after, none⟩ :: l) K (look el b) w := by
  refine RL.enter' (R := R) (f := f) (args := vs.toArray) (w' := w) (fun _ _ => wanted_none rfl _) hd ?_ hc.2 k
  have := run_call (P := P) (ρ := ev (look el b)) (f := f) (xs := xs) (at_ := at_) (first := []) (captured := []) (fo := .func f) (ty := ty) (pos := pos) (after := after) rfl hc.1 (some dt) none w
  simpa [ha] using this
/-- a call of a function value -/
theorem RL.callv {f : FuncId} {fo : Operand} {xs : List Operand} {at_ : Array TypeId} {vs cap : List Value} {R : Value → World → Prop} (hfo : ev (look el b) fo = .func (.func f) #[] cap.toArray) (hc : Ct P f (vs ++ cap).toArray w R) (ha : xs.map (ev (look el b)) = vs) (hd : Nat.blt dt n = true)
    (k : ∀ v w', R v w' → RL P n ops l K (look ((dt, v) :: el) b) w') :
    RL P n ops (⟨some dt, .call { callee := .value fo, args := xs.toArray, argTypes := at_ }, ty, pos, after, none⟩ :: l) K (look el b) w := by
  refine RL.enter' (R := R) (f := f) (args := (vs ++ cap).toArray) (w' := w) (fun _ _ => wanted_none rfl _) hd ?_ hc.2 k
  have := run_call (P := P) (ρ := ev (look el b)) (f := f) (xs := xs) (at_ := at_) (first := []) (captured := cap) (fo := fo) (ty := ty) (pos := pos) (after := after) hfo hc.1 (some dt) none w
  simpa [ha] using this

theorem RL.callv0 {f : FuncId} {fo : Operand} {xs : List Operand} {at_ : Array TypeId} {vs : List Value} {R : Value → World → Prop} (hfo : ev (look el b) fo = .func (.func f) #[] #[]) (hc : Ct P f vs.toArray w R) (ha : xs.map (ev (look el b)) = vs) (hd : Nat.blt dt n = true)
    (k : ∀ v w', R v w' → RL P n ops l K (look ((dt, v) :: el) b) w') :
    RL P n ops (⟨some dt, .call { callee := .value fo, args := xs.toArray, argTypes := at_ }, ty, pos, after, none⟩ :: l) K (look el b) w :=
  RL.callv (cap := []) hfo (by rw [List.append_nil]; exact hc) ha hd k

/-! ### operations that make memory -/
theorem Ext.alloc' {w w' : World} {o : Obj} (h : w' = w.alloc o) : Ext w w' := by subst h; exact Ext.alloc w o
theorem RL.boxC {elem : TypeId} {x : Operand} {cs : List Value} (B : Nat) (hB : B ≤ w.heap.size) (hx : (ev (look el b) x).cells = cs.toArray) (hd : Nat.blt dt n = true)
    (k : ∀ w' i, i = w.heap.size → Ext w w' → Box B w' i elem cs → RL P n ops l K (look ((dt, .pointer (some ⟨i, 0, none⟩)) :: el) b) w') :
    RL P n ops (⟨some dt, .box elem x, ty, pos, after, none⟩ :: l) K (look el b) w := by
  refine RL.val' (w' := w.alloc (.cells cs.toArray elem)) (v := .pointer (some ⟨w.heap.size, 0, none⟩)) (fun _ _ => wanted_none rfl _) hd ?_ (k _ _ rfl (Ext.alloc _ _) ⟨hB, heap_alloc_new w _⟩)
  simp [execOp, Instr.box, newVar, newRow, hx]
theorem RL.boxS {elem : TypeId} {x : Operand} {cs : List Value} (B : Nat) (hB : B ≤ w.heap.size) (hx : ev (look el b) x = .agg cs.toArray) (hd : Nat.blt dt n = true)
    (k : ∀ w' i, i = w.heap.size → Ext w w' → Box B w' i elem cs → RL P n ops l K (look ((dt, .pointer (some ⟨i, 0, none⟩)) :: el) b) w') :
    RL P n ops (⟨some dt, .box elem x, ty, pos, after, none⟩ :: l) K (look el b) w :=
  RL.boxC B hB (by rw [hx]; rfl) hd k
theorem RL.box1 {elem : TypeId} {x : Operand} {v : Value} (B : Nat) (hB : B ≤ w.heap.size) (hx : ev (look el b) x = v) (h1 : v.cells = [v].toArray) (hd : Nat.blt dt n = true)
    (k : ∀ w' i, i = w.heap.size → Ext w w' → Box B w' i elem [v] → RL P n ops l K (look ((dt, .pointer (some ⟨i, 0, none⟩)) :: el) b) w') :
    RL P n ops (⟨some dt, .box elem x, ty, pos, after, none⟩ :: l) K (look el b) w :=
  RL.boxC B hB (by rw [hx]; exact h1) hd k
/-- a new variable, at its zero value -/
theorem RL.alloc {elem : TypeId} {sz by_ : Nat} {z : Value} [hi : Inf P elem sz by_ z] {cs : List Value} (B : Nat) (hB : B ≤ w.heap.size) (hz : z.cells = cs.toArray) (hd : Nat.blt dt n = true)
    (k : ∀ w' i, i = w.heap.size → Ext w w' → Box B w' i elem cs → RL P n ops l K (look ((dt, .pointer (some ⟨i, 0, none⟩)) :: el) b) w') :
    RL P n ops (⟨some dt, .alloc elem, ty, pos, after, none⟩ :: l) K (look el b) w := by
  obtain ⟨i, h1, h2, h3, h4⟩ := hi.h
  refine RL.val' (w' := w.alloc (.cells cs.toArray elem)) (v := .pointer (some ⟨w.heap.size, 0, none⟩)) (fun _ _ => wanted_none rfl _) hd ?_ (k _ _ rfl (Ext.alloc _ _) ⟨hB, heap_alloc_new w _⟩)
  simp [execOp, Instr.alloc, zeroValue, typeInfo, h1, h4, newVar, newRow, hz]

/-- cs with vs from place k on -/
def splice (cs : List Value) (k : Nat) (vs : List Value) : List Value := cs.take k ++ vs ++ cs.drop (k + vs.length)
theorem Upd.setRow (w : World) (g : Nat) (cs : Array Value) : Upd (· = g) w (w.setRow g cs) :=
  ⟨rfl, rfl, rfl, dle.refl _, by simp, fun k hk hx => setRow_other w g k cs hx⟩
theorem run_storeBox {t : TypeId} {sz B g k : Nat} {T : TypeId} {cs vs : List Value} {v : Value} (hi : ∃ i, P.info? t = some i ∧ i.size = sz) (hb : Box B w g T cs) (hv : v.cells = vs.toArray) (hl : vs.length = sz) (hk : k + sz ≤ cs.length) (h1 : ∀ v ∈ vs, v.oneCell' = true) :
    (Instr.storeAt t (.pointer (some ⟨g, k, none⟩)) v).run P w = .ok () (w.setRow g (splice cs k vs).toArray) := by
  obtain ⟨i, h2, h3⟩ := hi
  have hst := run_storeCells_at P g k T vs 0 cs.toArray w hb.at_ (by simp; omega) h1
  simp only [Nat.add_zero] at hst
  have hne : ¬ vs.length ≠ i.size := by omega
  simp [Instr.storeAt, Instr.sureAddr, storeVar, hv, run_size h2, hl, h3, hst, splice]
/-- a store into a block of the call's own -/
theorem RL.store {t : TypeId} {sz B g k : Nat} {T : TypeId} {x y : Operand} {cs vs : List Value} {v : Value} (hi : ∃ i, P.info? t = some i ∧ i.size = sz) (hx : ev (look el b) x = .pointer (some ⟨g, k, none⟩)) (hb : Box B w g T cs) (hy : ev (look el b) y = v) (hv : v.cells = vs.toArray) (hl : vs.length = sz) (hk : k + sz ≤ cs.length) (h1 : ∀ v ∈ vs, v.oneCell' = true)
    (kk : ∀ w', Upd (· = g) w w' → Box B w' g T (splice cs k vs) → RL P n ops l K (look el b) w') :
    RL P n ops (⟨none, .store t x y, ty, pos, after, none⟩ :: l) K (look el b) w := by
  refine RL.skip' (w' := w.setRow g (splice cs k vs).toArray) (fun _ _ => wanted_none rfl _) rfl ?_ (kk _ (Upd.setRow _ _ _) ⟨hb.old, setRow_heap w g _ _ T _ hb.at_⟩)
  simp only [execOp, hx, hy]
  simp [run_storeBox hi hb hv hl hk h1]
class Siz (P : Program) (t : TypeId) (sz : outParam Nat) : Prop where
  h : ∃ i, P.info? t = some i ∧ i.size = sz
instance {P : Program} {t : TypeId} {sz by_ : Nat} {z : Value} [h : Inf P t sz by_ z] : Siz P t sz := ⟨let ⟨i, h1, h2, _⟩ := h.h; ⟨i, h1, h2⟩⟩
/-- a whole variable is stored -/
theorem RL.storeS {t : TypeId} {sz B g : Nat} {T : TypeId} {x y : Operand} {cs vs : List Value} [hi : Siz P t sz] (hx : ev (look el b) x = .pointer (some ⟨g, 0, none⟩)) (hb : Box B w g T cs) (hy : ev (look el b) y = .agg vs.toArray) (hl : vs.length = sz) (hk : cs.length = sz) (h1 : vs.all Value.oneCell' = true)
    (kk : ∀ w', Upd (· = g) w w' → Box B w' g T vs → RL P n ops l K (look el b) w') :
    RL P n ops (⟨none, .store t x y, ty, pos, after, none⟩ :: l) K (look el b) w := by
  refine RL.store hi.h hx hb hy rfl hl (by omega) (fun v hv => (List.all_eq_true.1 h1) v hv) (fun w' hu hb' => kk w' hu ?_)
  have : splice cs 0 vs = vs := by simp [splice, List.drop_eq_nil_of_le (show cs.length ≤ vs.length by omega)]
  rwa [this] at hb'
theorem RL.store1 {t : TypeId} {B g k : Nat} {T : TypeId} {x y : Operand} {cs : List Value} {v : Value} [hi : Siz P t 1] (hx : ev (look el b) x = .pointer (some ⟨g, k, none⟩)) (hb : Box B w g T cs) (hy : ev (look el b) y = v) (hv : v.cells = [v].toArray) (hk : Nat.blt k cs.length = true) (h1 : v.oneCell' = true)
    (kk : ∀ w', Upd (· = g) w w' → Box B w' g T (cs.set k v) → RL P n ops l K (look el b) w') :
    RL P n ops (⟨none, .store t x y, ty, pos, after, none⟩ :: l) K (look el b) w := by
  have hlt : k < cs.length := Nat.le_of_ble_eq_true hk
  refine RL.store hi.h hx hb hy hv rfl (by omega) (fun u hu => by simp at hu; subst hu; exact h1) (fun w' hu hb' => kk w' hu ?_)
  have : splice cs k [v] = cs.set k v := by
    simp [splice, List.set_eq_take_append_cons_drop, hlt]
  rwa [this] at hb'

/-! ### values that are built -/
def fillL (place : Nat → Option (Nat × Nat)) (cells : List Value) : List (Nat × List Value) → Option (List Value)
  | [] => some cells
  | (i, v) :: rest =>
    match place i with
    | none => none
    | some (off, size) => if v.length ≠ size || off + v.length > cells.length then none else fillL place (splice cells off v) rest
theorem set_fold : ∀ (vs : List Value) (off j : Nat) (cells : List Value), off + j + vs.length ≤ cells.length →
    ((vs.zipIdx j).foldl (fun (cs : Array Value) (x : Value × Nat) => cs.setIfInBounds (off + x.2) x.1) cells.toArray) = (splice cells (off + j) vs).toArray
  | [], off, j, cells, h => by simp [splice]
  | v :: vs, off, j, cells, h => by
    simp only [List.zipIdx_cons, List.foldl_cons, List.length_cons] at h ⊢
    have e1 : cells.toArray.setIfInBounds (off + j) v = (cells.set (off + j) v).toArray := by simp
    rw [e1, set_fold vs off (j + 1) (cells.set (off + j) v) (by simp; omega)]
    congr 1
    have hlt : off + j < cells.length := by omega
    apply List.ext_getElem?
    intro i
    simp only [splice, List.getElem?_append, List.length_append, List.length_take, List.length_set, List.getElem?_take, List.getElem?_set, List.getElem?_drop, List.length_cons]
    have h1 : min (off + (j + 1)) cells.length = off + j + 1 := by omega
    have h2 : min (off + j) cells.length = off + j := by omega
    rw [h1, h2]
    by_cases c1 : i < off + j
    · have a1 : i < off + j + 1 := by omega
      have a2 : i < off + j + 1 + vs.length := by omega
      have a3 : i < off + j + (vs.length + 1) := by omega
      have a4 : ¬ off + j = i := by omega
      have a5 : i < off + (j + 1) := by omega
      simp [c1, a1, a2, a3, a4, a5]
    · by_cases c2 : i = off + j
      · subst c2
        have a5 : off + j < off + (j + 1) := by omega
        simp [hlt, a5]
        omega
      · by_cases c3 : i < off + j + (vs.length + 1)
        · have a1 : ¬ i < off + j + 1 := by omega
          have a2 : i < off + j + 1 + vs.length := by omega
          obtain ⟨m, hm⟩ : ∃ m, i - (off + j) = m + 1 := ⟨i - (off + j) - 1, by omega⟩
          have a3 : i - (off + j + 1) = m := by omega
          simp [c1, c3, a1, a2, hm, a3]
        · have a1 : ¬ i < off + j + 1 + vs.length := by omega
          have a2 : ¬ off + j = off + (j + 1) + vs.length + (i - (off + j + 1 + vs.length)) := by omega
          have a3 : off + (j + 1) + vs.length + (i - (off + j + 1 + vs.length)) = i := by omega
          have a4 : off + j + (vs.length + 1) + (i - (off + j + (vs.length + 1))) = i := by omega
          have a5 : ¬ off + j = i := by omega
          simp [c3, a1, a3, a4, a5]
theorem fill_eq (place : Nat → Option (Nat × Nat)) : ∀ (parts : List (Nat × List Value)) (vals : List (Nat × Value)) (cells cells' : List Value), vals.map (fun x => (x.1, x.2.cells.toList)) = parts → fillL place cells parts = some cells' →
    Instr.fill place cells.toArray vals = some cells'.toArray
  | [], vals, cells, cells', hv, h => by
    have : vals = [] := by cases vals <;> simp_all
    subst this
    simp only [fillL, Option.some.injEq] at h
    subst h; rfl
  | (i, vs) :: parts, [], cells, cells', hv, h => by simp at hv
  | (i, vs) :: parts, (i', v) :: vals, cells, cells', hv, h => by
    simp only [List.map_cons, List.cons.injEq, Prod.mk.injEq] at hv
    obtain ⟨⟨rfl, rfl⟩, hv⟩ := hv
    simp only [fillL] at h
    simp only [Instr.fill]
    cases hp : place i' with
    | none => simp [hp] at h
    | some os =>
      obtain ⟨off, size⟩ := os
      simp only [hp] at h ⊢
      simp only [Array.length_toList] at h
      split at h
      · cases h
      · rename_i hc
        have ih := fill_eq place parts vals _ cells' hv h
        have hc' : ¬ ((decide (v.cells.size ≠ size) || decide (off + v.cells.size > cells.toArray.size)) = true) := by simpa using hc
        rw [if_neg hc', ← Array.foldl_toList]
        have hlen : off + 0 + v.cells.toList.length ≤ cells.length := by simp at hc; simp; omega
        have := set_fold v.cells.toList off 0 cells hlen
        simp only [Array.toList_zipIdx, Nat.add_zero] at this ⊢
        rw [this]; exact ih
/-- a struct type whose values are built field by field -/
class Bld (P : Program) (t : TypeId) (places : outParam (List (Nat × Nat))) (z : outParam (List Value)) : Prop where
  h : ∃ fs it z', P.underlying t = some (.struct fs) ∧ P.info? t = some it ∧ it.zero = some z' ∧ z'.cells = z.toArray ∧ fs.toList.mapM (fun f => (P.info? f.type).map fun i => (f.offset, i.size)) = some places
theorem bld {t : TypeId} {places : List (Nat × Nat)} {z : List Value} [hb : Bld P t places z] {e : Env} {xs : List (Nat × Operand)} {vs : List (Nat × List Value)} {cs : List Value} (hv : xs.map (fun x => (x.1, (ev e x.2).cells.toList)) = vs) (hf : fillL (places[·]?) z vs = some cs) :
    Pure P e (.build t xs.toArray) (.agg cs.toArray) := by
  intro w d ty pos after g
  obtain ⟨fs, it, z', h1, h2, h3, h4, h5⟩ := hb.h
  have hfill := fill_eq (places[·]?) vs (xs.map fun x => (x.1, ev e x.2)) z cs (by rw [← hv]; simp) hf
  have hbt : P.built t (xs.map fun x => (x.1, ev e x.2)) = some cs.toArray := by
    unfold Program.built
    simp only [h2, h1, h3, h5, h4]
    simpa using hfill
  have := run_build (P := P) w t (xs.map fun x => (x.1, ev e x.2)).toArray cs.toArray (by simpa using hbt)
  simp [execOp, this]

/-- a literal slice: a new row -/
theorem RL.buildSlice {t elem : TypeId} {sz by_ : Nat} {z : Value} [hu : Und P t (.slice elem)] [hi : Inf P elem sz by_ z] {len : Nat} {xs : List (Nat × Operand)} {vs : List (Nat × List Value)} {cs zs : List Value} (B : Nat) (hB : B ≤ w.heap.size)
    (hz : (List.range (len * sz)).map (fun i => z.cells[i % z.cells.size]!) = zs) (hsm : (Nat.blt 0 (len * sz) && Nat.ble (len * sz) 16777216) = true)
    (hv : xs.map (fun x => (x.1, (ev (look el b) x.2).cells.toList)) = vs) (hf : fillL (fun i => some (i * sz, sz)) zs vs = some cs) (hd : Nat.blt dt n = true)
    (k : ∀ w' i, i = w.heap.size → Ext w w' → Box B w' i elem cs → RL P n ops l K (look ((dt, .slice (some ⟨i, 0, none⟩) len len) :: el) b) w') :
    RL P n ops (⟨some dt, .buildSlice t len xs.toArray, ty, pos, after, none⟩ :: l) K (look el b) w := by
  obtain ⟨i, h1, h2, h3, h4⟩ := hi.h
  subst h2
  have hfill := fill_eq (fun j => some (j * i.size, i.size)) vs (xs.map fun x => (x.1, ev (look el b) x.2)) zs cs (by rw [← hv]; simp) hf
  simp only [Bool.and_eq_true] at hsm
  have hsm1 : 0 < len * i.size := Nat.le_of_ble_eq_true hsm.1
  have hsm2 : len * i.size ≤ 16777216 := Nat.le_of_ble_eq_true hsm.2
  have hrun := run_buildSlice (P := P) w t elem len (xs.map fun x => (x.1, ev (look el b) x.2)).toArray cs.toArray i z hu.h h1 h4 (by omega) (by omega) (by
    rw [← hfill, ← hz]
    congr 1
    apply Array.ext'
    simp [Array.toList_range])
  refine RL.val' (w' := w.alloc (.cells cs.toArray elem)) (v := .slice (some ⟨w.heap.size, 0, none⟩) len len) (fun _ _ => wanted_none rfl _) hd ?_ (k _ _ rfl (Ext.alloc _ _) ⟨hB, heap_alloc_new w _⟩)
  simp [execOp, hrun]

/-! ### slices that grow -/
theorem own_form {α : Type} [Lies α] {B : Nat} {w : World} {T : TypeId} {v : Value} {l : List α} (h : w.ownsRow B T (Lies.sz α) v l.length (l.flatMap Lies.enc)) : ∃ a c, v = .slice a l.length c ∧ Own B w T a c l := by
  rcases h.2 with ⟨h1, h2⟩ | ⟨g, cap, cur, h1, h2⟩
  · refine ⟨none, 0, by rw [h1, h2], ?_⟩
    unfold Own
    rw [← show v = Value.slice none l.length 0 by rw [h1, h2]]
    exact h
  · refine ⟨_, cap, h1, ?_⟩
    unfold Own
    rw [← h1]
    exact h
theorem ownBlock_slice (a : Option Addr) (n c : Nat) : Value.ownBlock (.slice a n c) = a.map (·.block) := by cases a <;> rfl
theorem viewStore_drawn {P : Program} {w w' : World} {at_ k : Addr} {u : TypeId} {v : Value} {b : Bool} {l : List Addr} (h : w.viewStore P at_ u k v b = .ok (w', l)) : w'.drawn = w.drawn := by
  simp only [World.viewStore, bind, Except.bind, pure, Except.pure] at h
  repeat' (split at h)
  all_goals first | (cases h; done) | (simp only [Except.ok.injEq, Prod.mk.injEq] at h; rw [← h.1]) | skip
theorem farStore_drawn {P : Program} {w w' : World} {a : Addr} {v : Value} {b : Bool} {l : List Addr} (h : w.farStore P a v b = .ok (w', l)) : w'.drawn = w.drawn := by
  unfold World.farStore at h
  split at h
  · split at h
    · rename_i r hr
      obtain ⟨w1, l1⟩ := r
      simp only [Except.ok.injEq, Prod.mk.injEq] at h
      rw [← h.1]
      exact viewStore_drawn hr
    · cases h
  · cases h
theorem ask_drawn {α : Type} : ∀ (a : Ask α) (w : World), w.drawn ≤ (w.ask a).2.drawn
  | .done a, w => Nat.le_refl _
  | .ask what range k, w => by
    unfold World.ask
    simp only
    split
    · exact ask_drawn _ w
    · have := ask_drawn (k ((Question.extern what range).cut (w.tape w.drawn (Question.extern what range)))) { w with drawn := w.drawn + 1 }
      simp only at this
      omega
theorem sys_drawn (w : World) (c : Sys) : w.drawn ≤ (w.sys c).2.drawn := by
  have h := ask_drawn (Kernel.perform c w.os) w
  unfold World.sys
  split
  · exact Nat.le_refl _
  · rename_i hq
    rw [hq] at h
    exact h
/-- what runs draws on -/
theorem run_drawn {α : Type} (P : Program) : ∀ {s : Sem α} {w : World} {a : α} {w' : World}, s.run P w = .ok a w' → w.drawn ≤ w'.drawn := by
  intro s
  induction s with
  | pure a => intro w a' w' h; simp only [Sem.run, Result.ok.injEq] at h; rw [← h.2]; exact Nat.le_refl _
  | load m a k ih =>
    intro w x w' h
    simp only [Sem.run] at h
    split at h
    · exact ih _ h
    · split at h
      · exact ih _ h
      · cases h
  | store m a v k ih =>
    intro w x w' h
    have key : ∀ v : Value, (match w.cell? a with
        | some _ => if w.frozen? a = true then Result.halt (Halt.unsupported (Unsupported.unsafePointer "a write to bytes that a string shares")) w else Sem.run P k (w.setCell a v)
        | none => match World.farStore P w a v (m == Mode.atomic) with
          | Except.ok (w, _) => Sem.run P k w
          | Except.error h => Result.halt h w) = Result.ok x w' → w.drawn ≤ w'.drawn := by
      intro v h
      split at h
      · split at h
        · cases h
        · exact Nat.le_trans (Nat.le_of_eq (by unfold World.setCell; repeat' split
                                               all_goals rfl)) (ih h)
      · split at h
        · rename_i w1 l1 hf
          have h1 := ih h
          rw [farStore_drawn hf] at h1
          exact h1
        · cases h
    cases v <;> first | (simp only [Sem.run] at h; cases h; done) | (simp only [Sem.run] at h; exact key _ h)
  | new o k ih => intro w x w' h; simp only [Sem.run] at h; exact (ih _ h : (w.alloc o).drawn ≤ w'.drawn)
  | shape r k ih => intro w x w' h; simp only [Sem.run] at h; exact ih _ h
  | freeze a n k ih =>
    intro w x w' h
    simp only [Sem.run] at h
    have h1 := ih h
    unfold World.freeze at h1
    split at h1 <;> exact h1
  | frozen a k ih => intro w x w' h; simp only [Sem.run] at h; exact ih _ h
  | getObj r k ih =>
    intro w x w' h
    simp only [Sem.run] at h
    repeat' (split at h)
    all_goals first | exact ih _ h | cases h
  | setObj r o k ih =>
    intro w x w' h
    simp only [Sem.run] at h
    split at h
    · cases h
    · have h1 := ih h
      exact h1
    · cases h
  | choose q k ih =>
    intro w x w' h
    simp only [Sem.run] at h
    split at h
    · exact ih _ h
    · have h1 := ih _ h
      simp only at h1
      omega
  | sys c k ih =>
    intro w x w' h
    simp only [Sem.run] at h
    exact Nat.le_trans (sys_drawn w c) (ih _ h)
  | program k ih => intro w x w' h; simp only [Sem.run] at h; exact ih _ h
  | mark m k ih => intro w x w' h; simp only [Sem.run] at h; exact ih h
  | halt x => intro w a w' h; simp [Sem.run] at h
theorem Upd.of_grownBy {w w' : World} {a : Option Addr} (h : w.grownBy w' (a.map (·.block))) (hd : w.drawn ≤ w'.drawn) : Upd (inBlock a) w w' :=
  ⟨h.os, h.tape, h.output, dle.of hd, h.size, fun k hk hx => h.block k hk (fun e => by
    cases a with
    | none => cases e
    | some p => exact hx ⟨p, rfl, (Option.some.inj e).symm⟩)⟩
/-- a' lies where a lies, or in the block that is made next -/
def Fr (w : World) (a a' : Option Addr) : Prop := ∀ k, inBlock a' k → inBlock a k ∨ k = w.heap.size
theorem Fr.refl (w : World) (a : Option Addr) : Fr w a a := fun k h => .inl h
/-- append of what lies in a row that can be read -/
theorem RL.append {α : Type} [Lies α] {t elem : TypeId} {sz by_ : Nat} {z : Value} [hu : Und P t (.slice elem)] [hi : Inf P elem sz by_ z] {x y : Operand} {B : Nat} {a : Option Addr} {c m cm : Nat} {l' new : List α} {p : Addr}
    (hx : ev (look el b) x = .slice a l'.length c) (hown : Own B w elem a c l') (hB : B ≤ w.heap.size) (hy : ev (look el b) y = .slice (some p) m cm) (hnew : Sl w (some p) new) (hm : new.length = m)
    (hsz : Lies.sz α = sz) (hsz0 : 0 < sz) (hzs : z.cells.size = sz) (h1 : ∀ (y : α) v, v ∈ Lies.enc y → v.oneCell' = true) (hlen : (l'.length + m) * by_ ≤ 140737488355328) (hlen' : l'.length + m ≤ maxLen) (hd : Nat.blt dt n = true)
    (k : ∀ w' a' c', Upd (inBlock a) w w' → Own B w' elem a' c' (l' ++ new) → Fr w a a' → RL P n ops l K (look ((dt, .slice a' (l' ++ new).length c') :: el) b) w') :
    RL P n ops (⟨some dt, .call { callee := .builtin .append, args := #[x, y], argTypes := #[t, t] }, ty, pos, after, none⟩ :: l) K (look el b) w := by
  obtain ⟨i, h2, h3, h4, h5⟩ := hi.h
  obtain ⟨v', w', hr, hown', hg, _, hfr⟩ := run_append_own_at (P := P) w B t ty elem i z sz by_ hu.h h2 h5 h3 h4 hzs hsz0 (.slice a l'.length c) l'.length (l'.flatMap Lies.enc) (by rw [← hsz]; exact hown) p m cm (new.flatMap Lies.enc)
    (by rw [flatMap_length Lies.len, hm, hsz]) (fun j u hj => Row.cell hnew hj) (fun u hu => by obtain ⟨y, _, hy⟩ := List.mem_flatMap.1 hu; exact h1 y u hy) hlen' hlen hB
  have hown2 : w'.ownsRow B elem (Lies.sz α) v' (l' ++ new).length ((l' ++ new).flatMap Lies.enc) := by
    rw [List.flatMap_append, List.length_append, hm, hsz]; exact hown'
  obtain ⟨a', c', rfl, hO⟩ := own_form hown2
  refine RL.val' (w' := w') (fun _ _ => wanted_none rfl _) hd (by simp [execOp, resolve, invoke, builtin, hx, hy, hr]) (k w' a' c' (Upd.of_grownBy (by rw [← ownBlock_slice a l'.length c]; exact hg) (run_drawn P hr)) hO ?_)
  · rintro k ⟨p', rfl, rfl⟩
    rw [ownBlock_slice, ownBlock_slice] at hfr
    rcases hfr with h | h
    · cases a with
      | none => cases h
      | some q => exact .inl ⟨q, rfl, (Option.some.inj h).symm⟩
    · exact .inr (Option.some.inj h)
end
end Go.Eng
