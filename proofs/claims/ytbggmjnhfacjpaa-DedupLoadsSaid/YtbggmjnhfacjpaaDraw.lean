/-
  Regions that draw their order and only read: one walk, in the order of the text.
-/
import Derived.Test.YtbggmjnhfacjpaaFn
set_option linter.unusedVariables false
namespace Go.Eng
open Go Go.RowKit

/-- the program's regions are drawn in any order -/
class Mixed (P : Program) : Prop where
  h : P.follows .mixedOrders = true

def QL (P : Program) (n : Nat) (ops : Array Oper) (w : World) (l : List Oper) (K : Env → Prop) (e : Env) : Prop :=
  ∀ a, Rel n e a → wpQuiet P ops (fun w' => Ext w w') (fun a' => ∃ e', Rel n e' a' ∧ K e') l a

theorem wpQuiet_mono {P : Program} {ops : Array Oper} {C : World → Prop} {Q Q' : Act → Prop} (hq : ∀ a, Q a → Q' a) : ∀ (l : List Oper) (a : Act), wpQuiet P ops C Q l a → wpQuiet P ops C Q' l a
  | [], a, h => hq a h
  | o :: l, a, h => by
    unfold wpQuiet at h ⊢
    split
    · rename_i hw; rw [if_pos hw] at h; exact Oper.quiet_mono (fun a h => wpQuiet_mono hq l a h) h
    · rename_i hw; rw [if_neg hw] at h; exact wpQuiet_mono hq l _ h

section
variable {P : Program} {n : Nat} {ops : Array Oper} {l : List Oper} {K : Env → Prop} {el : List (Nat × Value)} {b : Env} {w : World} {dt : Nat} {op : Op} {ty : TypeId} {pos : String} {after : Array Edge} {v : Value} {e : Env} {o : Oper} {Q : Exit → Env → World → Prop}

theorem WP.draw [hm : Mixed P] {i : Nat} (hB : Region.lexB .any l.toArray = true) (h : QL P n l.toArray w l (fun e' => ∀ w', Ext w w' → Q .normal e' w') e) : WP P n (.region i l.toArray true) Q e w := by
  unfold WP
  intro a ha
  refine wp_region_quiet (C := fun w' => Ext w w') hm.h hB (Ext.drew w) ?_
  refine wpQuiet_mono ?_ _ _ (h a ha)
  rintro a ⟨e', hr, hk⟩ w' hw'
  exact ⟨e', hr, hk w' hw'⟩

theorem QL.nil (h : K e) : QL P n ops w [] K e := fun a ha => ⟨e, ha, h⟩

theorem QL.val' (hw : ∀ a, Rel n e a → Region.wanted o (yielded ops a.tmps) = true) (hd : dstOk n o.dst = true) (hrun : ∀ w', Ext w w' → (execOp (ev e) o).run P w' = .ok (.value v) w')
    (k : QL P n ops w l K (put e o.dst v)) : QL P n ops w (o :: l) K e := by
  intro a ha
  unfold wpQuiet
  rw [if_pos (hw a ha)]
  refine ⟨v, fun w' hw' => ?_, k _ (ha.put hd v)⟩
  unfold Oper.quietAt
  rw [ha.eval, hrun w' hw']
  exact ⟨rfl, rfl⟩
theorem QL.enter' {f : FuncId} {args : Array Value} (hw : ∀ a, Rel n e a → Region.wanted o (yielded ops a.tmps) = true) (hd : dstOk n o.dst = true)
    (hrun : ∀ w', (execOp (ev e) o).run P w' = .ok (.enter f args) w') (hc : ∀ w', Ext w w' → Ct P f args w' fun u w'' => u = v ∧ Ext w' w'')
    (k : QL P n ops w l K (put e o.dst v)) : QL P n ops w (o :: l) K e := by
  intro a ha
  unfold wpQuiet
  rw [if_pos (hw a ha)]
  refine ⟨v, fun w' hw' => ?_, k _ (ha.put hd v)⟩
  unfold Oper.quietAt
  rw [ha.eval, hrun w']
  refine ⟨rfl, (hc w' hw').2.mono ?_⟩
  rintro x w'' ⟨u, rfl, rfl, hx⟩
  exact ⟨rfl, hw'.trans hx⟩
theorem QL.pass' (hw : ∀ a, Rel n e a → Region.wanted o (yielded ops a.tmps) = false) (hd : dstOk n o.dst = true)
    (k : QL P n ops w l K (put e o.dst undef)) : QL P n ops w (o :: l) K e := by
  intro a ha
  unfold wpQuiet
  rw [if_neg (by rw [hw a ha]; simp)]
  exact k _ (ha.put hd _)

theorem QL.r (h : Pure P (look el b) op v) (hd : Nat.blt dt n = true) (k : QL P n ops w l K (look ((dt, v) :: el) b)) : QL P n ops w (⟨some dt, op, ty, pos, after, none⟩ :: l) K (look el b) :=
  QL.val' (fun _ _ => wanted_none rfl _) hd (fun w' _ => h w' _ _ _ _ _) k
theorem QL.m (h : Does P (look el b) w op v) (hd : Nat.blt dt n = true) (k : QL P n ops w l K (look ((dt, v) :: el) b)) : QL P n ops w (⟨some dt, op, ty, pos, after, none⟩ :: l) K (look el b) :=
  QL.val' (fun _ _ => wanted_none rfl _) hd (fun w' hw' => h w' hw' _ _ _ _ _) k
theorem QL.call {f : FuncId} {xs : List Operand} {at_ : Array TypeId} {vs : List Value} (hc : ∀ w', Ext w w' → Ct P f vs.toArray w' fun u w'' => u = v ∧ Ext w' w'') (ha : xs.map (ev (look el b)) = vs) (hd : Nat.blt dt n = true)
    (k : QL P n ops w l K (look ((dt, v) :: el) b)) :
    QL P n ops w (⟨some dt, .call { callee := .value (.func f), args := xs.toArray, argTypes := at_ }, ty, pos, after, none⟩ :: l) K (look el b) := by
  refine QL.enter' (f := f) (args := vs.toArray) (fun _ _ => wanted_none rfl _) hd (fun w' => ?_) hc k
  have := run_call (P := P) (ρ := ev (look el b)) (f := f) (xs := xs) (at_ := at_) (first := []) (captured := []) (fo := .func f) (ty := ty) (pos := pos) (after := after) rfl (hc w (Ext.refl w)).1 (some dt) none w'
  simpa [ha] using this
theorem QL.callv {f : FuncId} {fo : Operand} {xs : List Operand} {at_ : Array TypeId} {vs cap : List Value} (hfo : ev (look el b) fo = .func (.func f) #[] cap.toArray) (hc : ∀ w', Ext w w' → Ct P f (vs ++ cap).toArray w' fun u w'' => u = v ∧ Ext w' w'') (ha : xs.map (ev (look el b)) = vs) (hd : Nat.blt dt n = true)
    (k : QL P n ops w l K (look ((dt, v) :: el) b)) :
    QL P n ops w (⟨some dt, .call { callee := .value fo, args := xs.toArray, argTypes := at_ }, ty, pos, after, none⟩ :: l) K (look el b) := by
  refine QL.enter' (f := f) (args := (vs ++ cap).toArray) (fun _ _ => wanted_none rfl _) hd (fun w' => ?_) hc k
  have := run_call (P := P) (ρ := ev (look el b)) (f := f) (xs := xs) (at_ := at_) (first := []) (captured := cap) (fo := fo) (ty := ty) (pos := pos) (after := after) hfo (hc w (Ext.refl w)).1 (some dt) none w'
  simpa [ha] using this
theorem QL.part {x : Operand} {p : Prop} {dp : Decidable p} (hx : ev (look el b) x = .bool (@decide p dp)) (hd : Nat.blt dt n = true)
    (ht : p → QL P n ops w l K (look ((dt, .bool true) :: el) b)) (hf : ¬ p → QL P n ops w l K (look ((dt, .bool false) :: el) b)) : QL P n ops w (⟨some dt, .move x, ty, pos, after, none⟩ :: l) K (look el b) := by
  by_cases h : p
  · refine QL.r (v := .bool true) ?_ hd (ht h)
    have := mv (P := P) (e := look el b) x
    rwa [hx, decide_eq_true h] at this
  · refine QL.r (v := .bool false) ?_ hd (hf h)
    have := mv (P := P) (e := look el b) x
    rwa [hx, decide_eq_false h] at this
theorem QL.partB {x : Operand} {c : Bool} (hx : ev (look el b) x = .bool c) (hd : Nat.blt dt n = true)
    (ht : c = true → QL P n ops w l K (look ((dt, .bool true) :: el) b)) (hf : c = false → QL P n ops w l K (look ((dt, .bool false) :: el) b)) : QL P n ops w (⟨some dt, .move x, ty, pos, after, none⟩ :: l) K (look el b) := by
  cases c
  · refine QL.r (v := .bool false) ?_ hd (hf rfl)
    have := mv (P := P) (e := look el b) x
    rwa [hx] at this
  · refine QL.r (v := .bool true) ?_ hd (ht rfl)
    have := mv (P := P) (e := look el b) x
    rwa [hx] at this
theorem RL.partB {K : Env → World → Prop} {x : Operand} {c : Bool} (hx : ev (look el b) x = .bool c) (hd : Nat.blt dt n = true)
    (ht : c = true → RL P n ops l K (look ((dt, .bool true) :: el) b) w) (hf : c = false → RL P n ops l K (look ((dt, .bool false) :: el) b) w) : RL P n ops (⟨some dt, .move x, ty, pos, after, none⟩ :: l) K (look el b) w := by
  cases c
  · refine RL.r (v := .bool false) ?_ hd (hf rfl)
    have := mv (P := P) (e := look el b) x
    rwa [hx] at this
  · refine RL.r (v := .bool true) ?_ hd (ht rfl)
    have := mv (P := P) (e := look el b) x
    rwa [hx] at this
/-- a value that is there if a guard said yes -/
def gsel (g : Bool) (v : Value) : Value := cond g v undef
theorem gs {e : Env} {x : Operand} {v : Value} {G : Prop} {dG : Decidable G} (h : G) (hx : ev e x = gsel (@decide G dG) v) : ev e x = v := by rw [hx, decide_eq_true h]; rfl
section
variable {j dj : Nat} {g : Option (Nat × Bool)}
theorem gwT {p : Prop} {dp : Decidable p} (hj : (ops[j]?).bind (·.dst) = some dj) (he : look el b dj = .bool (@decide p dp)) (a : Act) (ha : Rel n (look el b) a) : Region.wanted ⟨some dt, op, ty, pos, after, some (j, true)⟩ (yielded ops a.tmps) = decide p := by
  rw [wanted_guard rfl hj he a ha]; simp
theorem gwF {p : Prop} {dp : Decidable p} (hj : (ops[j]?).bind (·.dst) = some dj) (he : look el b dj = .bool (@decide p dp)) (a : Act) (ha : Rel n (look el b) a) : Region.wanted ⟨some dt, op, ty, pos, after, some (j, false)⟩ (yielded ops a.tmps) = decide (¬ p) := by
  rw [wanted_guard rfl hj he a ha]; by_cases h : p <;> simp [h]
theorem wanted_undef {e : Env} {want : Bool} (hj : (ops[j]?).bind (·.dst) = some dj) (he : e dj = undef) (a : Act) (ha : Rel n e a) : Region.wanted ⟨some dt, op, ty, pos, after, some (j, want)⟩ (yielded ops a.tmps) = false := by
  have h1 : a.tmps.getD dj undef = undef := (ha.env dj).trans he
  rw [Array.getD_eq_getD_getElem?] at h1
  simp only [Region.wanted, yielded, hj, Option.bind_some]
  cases hq : a.tmps[dj]? with
  | none => rfl
  | some v => rw [hq] at h1; have h2 : v = .tuple #[] := h1; subst h2; rfl
theorem gwTT {G p : Prop} {dG : Decidable G} {dp : Decidable p} (hj : (ops[j]?).bind (·.dst) = some dj) (he : look el b dj = gsel (@decide G dG) (.bool (@decide p dp))) (a : Act) (ha : Rel n (look el b) a) : Region.wanted ⟨some dt, op, ty, pos, after, some (j, true)⟩ (yielded ops a.tmps) = decide (G ∧ p) := by
  by_cases hG : G
  · rw [decide_eq_true hG] at he
    rw [wanted_guard rfl hj he a ha]; simp [hG]
  · rw [decide_eq_false hG] at he
    rw [wanted_undef hj he a ha]; simp [hG]
theorem gwTF {G p : Prop} {dG : Decidable G} {dp : Decidable p} (hj : (ops[j]?).bind (·.dst) = some dj) (he : look el b dj = gsel (@decide G dG) (.bool (@decide p dp))) (a : Act) (ha : Rel n (look el b) a) : Region.wanted ⟨some dt, op, ty, pos, after, some (j, false)⟩ (yielded ops a.tmps) = decide (G ∧ ¬ p) := by
  by_cases hG : G
  · rw [decide_eq_true hG] at he
    rw [wanted_guard rfl hj he a ha]; by_cases h : p <;> simp [hG, h]
  · rw [decide_eq_false hG] at he
    rw [wanted_undef hj he a ha]; simp [hG]
def EvL (e : Env) : List Operand → List Value → Prop
  | [], vs => vs = []
  | x :: xs, vs => ∃ v us, vs = v :: us ∧ ev e x = v ∧ EvL e xs us
theorem EvL.map {e : Env} : ∀ {xs : List Operand} {vs : List Value}, EvL e xs vs → xs.map (ev e) = vs
  | [], _, h => h.symm
  | x :: xs, _, ⟨v, us, rfl, h1, h2⟩ => by rw [List.map_cons, h1, EvL.map h2]
theorem EvL.nil {e : Env} : EvL e [] [] := rfl
theorem EvL.cons {e : Env} {x : Operand} {xs : List Operand} {v : Value} {us : List Value} (h1 : ev e x = v) (h2 : EvL e xs us) : EvL e (x :: xs) (v :: us) := ⟨v, us, rfl, h1, h2⟩
/-- an operation under a guard -/
theorem QL.gg {G : Prop} {dG : Decidable G} (hw : ∀ a, Rel n (look el b) a → Region.wanted ⟨some dt, op, ty, pos, after, g⟩ (yielded ops a.tmps) = @decide G dG) (hp : G → Does P (look el b) w op v) (hd : Nat.blt dt n = true)
    (k : QL P n ops w l K (look ((dt, gsel (@decide G dG) v) :: el) b)) : QL P n ops w (⟨some dt, op, ty, pos, after, g⟩ :: l) K (look el b) := by
  by_cases hG : G
  · rw [decide_eq_true hG] at k
    exact QL.val' (fun a ha => by rw [hw a ha, decide_eq_true hG]) hd (fun w' hw' => hp hG w' hw' _ _ _ _ _) k
  · rw [decide_eq_false hG] at k
    exact QL.pass' (fun a ha => by rw [hw a ha, decide_eq_false hG]) hd k
theorem QL.gcall {G : Prop} {dG : Decidable G} {f : FuncId} {xs : List Operand} {at_ : Array TypeId} {vs : List Value} (hw : ∀ a, Rel n (look el b) a → Region.wanted ⟨some dt, .call { callee := .value (.func f), args := xs.toArray, argTypes := at_ }, ty, pos, after, g⟩ (yielded ops a.tmps) = @decide G dG)
    (hc : G → ∀ w', Ext w w' → Ct P f vs.toArray w' fun u w'' => u = v ∧ Ext w' w'') (ha : G → EvL (look el b) xs vs) (hd : Nat.blt dt n = true)
    (k : QL P n ops w l K (look ((dt, gsel (@decide G dG) v) :: el) b)) :
    QL P n ops w (⟨some dt, .call { callee := .value (.func f), args := xs.toArray, argTypes := at_ }, ty, pos, after, g⟩ :: l) K (look el b) := by
  by_cases hG : G
  · rw [decide_eq_true hG] at k
    refine QL.enter' (f := f) (args := vs.toArray) (fun a ha => by rw [hw a ha, decide_eq_true hG]) hd (fun w' => ?_) (hc hG) k
    have := run_call (P := P) (ρ := ev (look el b)) (f := f) (xs := xs) (at_ := at_) (first := []) (captured := []) (fo := .func f) (ty := ty) (pos := pos) (after := after) rfl (hc hG w (Ext.refl w)).1 (some dt) g w'
    simpa [(ha hG).map] using this
  · rw [decide_eq_false hG] at k
    exact QL.pass' (fun a ha => by rw [hw a ha, decide_eq_false hG]) hd k
end
theorem QL.no {j dj : Nat} {want c : Bool} (hj : (ops[j]?).bind (·.dst) = some dj) (he : look el b dj = .bool c) (hc : (c == want) = false) (hd : Nat.blt dt n = true)
    (k : QL P n ops w l K (look ((dt, undef) :: el) b)) : QL P n ops w (⟨some dt, op, ty, pos, after, some (j, want)⟩ :: l) K (look el b) :=
  QL.pass' (fun a ha => by rw [wanted_guard rfl hj he a ha]; exact hc) hd k
theorem QL.yes {j dj : Nat} {want c : Bool} (hj : (ops[j]?).bind (·.dst) = some dj) (he : look el b dj = .bool c) (hc : (c == want) = true)
    (k : QL P n ops w (⟨some dt, op, ty, pos, after, none⟩ :: l) K (look el b)) : QL P n ops w (⟨some dt, op, ty, pos, after, some (j, want)⟩ :: l) K (look el b) := by
  intro a ha
  have h1 := k a ha
  have hw : Region.wanted ⟨some dt, op, ty, pos, after, some (j, want)⟩ (yielded ops a.tmps) = true := by rw [wanted_guard rfl hj he a ha]; exact hc
  unfold wpQuiet at h1 ⊢
  rw [if_pos hw]
  rw [if_pos (wanted_none rfl _)] at h1
  exact h1
/-- a region in the order of the text that only reads -/
theorem quiet_list {ops : Array Oper} {Q : Exit → Act → World → Prop} {Q' : Act → Prop} {C : World → Prop} (hQ : ∀ a w, C w → Q' a → Q .normal a w) : ∀ (l : List Oper) (a : Act) (w : World), C w → wpQuiet P ops C Q' l a → wpList P ops Q l a w
  | [], a, w, hw, h => hQ a w hw h
  | o :: l, a, w, hw, h => by
    unfold wpQuiet at h
    unfold wpList
    split
    · rename_i hh
      rw [if_pos hh] at h
      exact .inl (Oper.wp_of_quiet hw (fun a' w' hw' hk => quiet_list hQ l a' w' hw' hk) h)
    · rename_i hh
      rw [if_neg hh] at h
      exact quiet_list hQ l _ w hw h
theorem WP.quiet {i : Nat} (h : QL P n l.toArray w l (fun e' => ∀ w', Ext w w' → Q .normal e' w') e) : WP P n (.region i l.toArray false) Q e w := by
  unfold WP
  intro a ha
  refine wp_region_lit (quiet_list (C := fun w' => Ext w w') ?_ _ _ _ (Ext.refl w) (h a ha))
  rintro a w' hw' ⟨e', hr, hk⟩
  exact ⟨e', hr, hk w' hw'⟩
theorem QL.mono {K' : Env → Prop} (h : QL P n ops w l K e) (hk : ∀ e, K e → K' e) : QL P n ops w l K' e :=
  fun a ha => wpQuiet_mono (fun a ⟨e', hr, q⟩ => ⟨e', hr, hk _ q⟩) l a (h a ha)
/-- the ways through a test meet again -/
theorem QL.bool (D : List Nat) (d : Nat) (p : Prop) [dp : Decidable p] (h : QL P n ops w l (fun e' => AgreeOff D e' e ∧ e' d = .bool (decide p)) (look [] e))
    (k : ∀ j, K (look [(d, .bool (decide p))] (mix D j e))) : QL P n ops w l K e := by
  refine QL.mono (K := fun e' => AgreeOff D e' e ∧ e' d = .bool (decide p)) h ?_
  rintro e' ⟨ha, hv⟩
  obtain ⟨j, rfl⟩ := Head.intro (l := [(d, .bool (decide p))]) ha ⟨hv, trivial⟩
  exact k j
theorem QL.end_ {D : List Nat} {d : Nat} {p : Prop} {dp : Decidable p} {c : Bool} {b0 : Env} (ha : AgreeOff D (look el b) b0) (hv : look el b d = .bool c) (hc : c = decide p) : QL P n ops w [] (fun e' => AgreeOff D e' b0 ∧ e' d = .bool (decide p)) (look el b) :=
  QL.nil ⟨ha, by rw [hv, hc]⟩
theorem bT {p : Prop} {dp : Decidable p} (h : p) : true = decide p := (decide_eq_true h).symm
theorem bF {p : Prop} {dp : Decidable p} (h : ¬ p) : false = decide p := (decide_eq_false h).symm
theorem bD {p q : Prop} {dp : Decidable p} {dq : Decidable q} (h : q ↔ p) : decide q = decide p := decide_eq_decide.2 h
end
attribute [irreducible] QL

/-! ### more operations -/
section
variable {P : Program} {e : Env} {x y : Operand} {t t' : TypeId} {w : World}
/-- struct values that are compared -/
class EqS (P : Program) (t : TypeId) (α : Type) [Lies α] [DecidableEq α] : Prop where
  h : ∀ (x y : α) (w : World), (Op.equalIn 10000 t (.agg (Lies.enc x).toArray) (.agg (Lies.enc y).toArray)).run P w = .ok (decide (x = y)) w
  g : P.eqGuardType P.depth t = false
theorem aeql {α : Type} [Lies α] [DecidableEq α] [hs : EqS P t α] {p q : α} (hx : ev e x = .agg (Lies.enc p).toArray) (hy : ev e y = .agg (Lies.enc q).toArray) : Pure P e (.binOp .eql t x y t') (.bool (decide (p = q))) := by
  intro w d ty pos after g
  simp only [execOp, hx, hy]
  simp [run_eqGuard_agg (P := P) w .eql t x y _ _ hs.g, run_eql_struct, hs.h]
theorem aneq {α : Type} [Lies α] [DecidableEq α] [hs : EqS P t α] {p q : α} (hx : ev e x = .agg (Lies.enc p).toArray) (hy : ev e y = .agg (Lies.enc q).toArray) : Pure P e (.binOp .neq t x y t') (.bool (decide (p ≠ q))) := by
  intro w d ty pos after g
  simp only [execOp, hx, hy]
  simp [run_eqGuard_agg (P := P) w .neq t x y _ _ hs.g, run_neq_struct, hs.h]
theorem pickAnd {c a : Operand} {p q : Prop} {dp : Decidable p} {dq : Decidable q} (hc : ev e c = .bool (@decide p dp)) (ha : p → ev e a = .bool (@decide q dq)) : Pure P e (.pick c a (.const (.bool false))) (.bool (decide (p ∧ q))) := by
  intro w d ty pos after g
  by_cases h : p
  · rw [decide_eq_true h] at hc
    simp [execOp, hc, asBool, ha h, h]
  · rw [decide_eq_false h] at hc
    have hb : ev e (.const (.bool false)) = .bool false := rfl
    simp [execOp, hc, asBool, h, hb]
theorem pickOr {c a : Operand} {p q : Prop} {dp : Decidable p} {dq : Decidable q} (hc : ev e c = .bool (@decide p dp)) (ha : ¬ p → ev e a = .bool (@decide q dq)) : Pure P e (.pick c (.const (.bool true)) a) (.bool (decide (p ∨ q))) := by
  intro w d ty pos after g
  by_cases h : p
  · rw [decide_eq_true h] at hc
    have hb : ev e (.const (.bool true)) = .bool true := rfl
    simp [execOp, hc, asBool, h, hb]
  · rw [decide_eq_false h] at hc
    simp [execOp, hc, asBool, ha h, h]
theorem min_i {a b : Int} {at_ : Array TypeId} (hx : ev e x = .int .i64 a) (hy : ev e y = .int .i64 b) : Pure P e (.call { callee := .builtin .min, args := #[x, y], argTypes := at_ }) (.int .i64 (min a b)) := by
  intro w d ty pos after g
  have h : (if b < a then b else a) = min a b := by rw [Int.min_def]; split <;> split <;> omega
  simp [execOp, resolve, invoke, builtin, Builtin.min_, Builtin.min2, hx, hy, h]
theorem max_i {a b : Int} {at_ : Array TypeId} (hx : ev e x = .int .i64 a) (hy : ev e y = .int .i64 b) : Pure P e (.call { callee := .builtin .max, args := #[x, y], argTypes := at_ }) (.int .i64 (max a b)) := by
  intro w d ty pos after g
  have h : (if a < b then b else a) = max a b := by rw [Int.max_def]; split <;> split <;> omega
  simp [execOp, resolve, invoke, builtin, Builtin.max_, Builtin.max2, hx, hy, h]
theorem run_eq_bool (d : Nat) (a b : Bool) (hu : P.underlying t = some .bool) (w : World) : (Op.equalIn (d + 1) t (.bool a) (.bool b)).run P w = .ok (a == b) w := by
  simp [Op.equalIn, run_und hu]
theorem run_eq_nil (d : Nat) {el : TypeId} (a : Option Addr) (hu : P.underlying t = some (.pointer el)) (w : World) : (Op.equalIn (d + 1) t (.pointer a) (.pointer none)).run P w = .ok (decide (a = none)) w := by
  cases a <;> simp [Op.equalIn, run_und hu]
theorem beql {a b : Bool} [hu : Und P t .bool] (hx : ev e x = .bool a) (hy : ev e y = .bool b) : Pure P e (.binOp .eql t x y t') (.bool (decide (a = b))) := by
  intro w d ty pos after g
  have h1 : binOp .eql t (.bool a) (.bool b) = (do pure (.bool (← Op.equalIn (9999 + 1) t (.bool a) (.bool b)))) := rfl
  simp only [execOp, hx, hy, h1]
  simp only [eqGuard_at_bool, Sem.run_bind, Sem.run_pure, Result.andThen_ok, run_eq_bool 9999 a b hu.h]
  cases a <;> cases b <;> rfl
theorem bneq {a b : Bool} [hu : Und P t .bool] (hx : ev e x = .bool a) (hy : ev e y = .bool b) : Pure P e (.binOp .neq t x y t') (.bool (decide (a ≠ b))) := by
  intro w d ty pos after g
  have h1 : binOp .neq t (.bool a) (.bool b) = (do pure (.bool (!(← Op.equalIn (9999 + 1) t (.bool a) (.bool b))))) := rfl
  simp only [execOp, hx, hy, h1]
  simp only [eqGuard_at_bool, Sem.run_bind, Sem.run_pure, Result.andThen_ok, run_eq_bool 9999 a b hu.h]
  cases a <;> cases b <;> rfl
/-- a pointer held against nil -/
theorem peqn {a : Option Addr} {el : TypeId} [hu : Und P t (.pointer el)] (hx : ev e x = .pointer a) (hy : ev e y = .pointer none) : Pure P e (.binOp .eql t x y t') (.bool (decide (a = none))) := by
  intro w d ty pos after g
  have h1 : binOp .eql t (.pointer a) (.pointer none) = (do pure (.bool (← Op.equalIn (9999 + 1) t (.pointer a) (.pointer none)))) := rfl
  simp only [execOp, hx, hy, h1]
  simp [eqGuard, run_eq_nil 9999 a hu.h]
theorem pneqn {a : Option Addr} {el : TypeId} [hu : Und P t (.pointer el)] (hx : ev e x = .pointer a) (hy : ev e y = .pointer none) : Pure P e (.binOp .neq t x y t') (.bool (decide (a ≠ none))) := by
  intro w d ty pos after g
  have h1 : binOp .neq t (.pointer a) (.pointer none) = (do pure (.bool (!(← Op.equalIn (9999 + 1) t (.pointer a) (.pointer none))))) := rfl
  simp only [execOp, hx, hy, h1]
  simp [eqGuard, run_eq_nil 9999 a hu.h]
/-- a piece of a text -/
theorem run_bound {i : Int} {k y : Nat} {code : BoundsCode} (hi : i = (k : Int)) (hk : k ≤ y) (w : World) : (Instr.sliceBound (.int .i64 i) y code).run P w = .ok k w := by
  subst hi
  simp [Instr.sliceBound, asIntOf, hk]
theorem sub_str {s : ByteArray} {i : Int} {k : Nat} [hu : Und P t .string] (hx : ev e x = .string s) (hy : ev e y = .int .i64 i) (hi : i = (k : Int)) (hk : k ≤ s.size) : Pure P e (.slice t x none (some y) none) (.string (s.extract 0 k)) := by
  intro w d ty pos after g
  simp only [execOp, hx, Option.map]
  simp [hy, Instr.sliceAt, run_und hu.h, Instr.slice, Instr.sliceBounds, run_bound (P := P) (code := .sliceAlen) hi hk]
end
end Go.Eng
