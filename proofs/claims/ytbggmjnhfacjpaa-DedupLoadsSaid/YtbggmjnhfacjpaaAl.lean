/-
  Regions that draw their order and write: the rules.
-/
import Derived.Test.YtbggmjnhfacjpaaAny
set_option linter.unusedVariables false
namespace Go.Eng
open Go Go.RowKit

/-- operations that turn no block, and yield a value -/
def gentle : Op → Bool
  | .move _ | .assign _ | .pick .. | .alloc _ | .box .. | .build .. | .buildSlice .. | .load .. | .fieldAddr .. | .field .. | .indexAddr .. | .index .. | .extract .. | .makeFunc .. | .unOp .. | .slice .. => true
  | .call c => (match c.callee with | .builtin .len => true | .builtin .min => true | _ => false)
  | _ => false

theorem mild_field (t : TypeId) (x : Value) (f : Nat) : Mild (Instr.field t x f) := by
  unfold Instr.field
  refine Mild.bind (fun d => ?_) (mild_underlying t)
  split
  · split
    · refine Mild.bind (fun a => mild_part _ _ _) ?_
      unfold asAgg; split <;> trivial
    · trivial
  · trivial

theorem mild_min (at_ : Array TypeId) (ty : TypeId) (args : Array Value) : Mild (Builtin.min_ at_ ty args) := by
  unfold Builtin.min_
  split
  · trivial
  · rename_i x rest _
    have key : ∀ (l : List Value) (x : Value), Mild (l.foldlM Builtin.min2 x) := by
      intro l
      induction l with
      | nil => intro x; exact Mild.pure _
      | cons y l ih => intro x; rw [List.foldlM_cons]; exact Mild.bind (fun z => ih z) (mild_min2 _ _)
    exact key _ _

theorem gentle_run {P : Program} {ρ : Operand → Value} {o : Oper} (hg : gentle o.op = true) {w : World} {nx : Next} {w' : World} (h : (execOp ρ o).run P w = .ok nx w') : (∃ u, nx = .value u) ∧ Ext w w' := by
  have key : ∀ s : Sem Value, Mild s → execOp ρ o = (do Pure.pure (Next.value (← s))) → (∃ u, nx = .value u) ∧ Ext w w' := by
    intro s hs he
    rw [he, Sem.run_bind] at h
    cases hr : s.run P w with
    | ok u w1 =>
      rw [hr] at h
      simp only [Result.andThen_ok, Sem.run_pure, Result.ok.injEq] at h
      exact ⟨⟨u, h.1.symm⟩, by rw [← h.2]; exact Mild.run P hs hr⟩
    | halt x w1 => rw [hr] at h; cases h
  obtain ⟨d, op, ty, pos, after, g⟩ := o
  cases op with
  | move x => exact key (Pure.pure (ρ x)) trivial rfl
  | assign x => exact key (Pure.pure (ρ x)) trivial rfl
  | pick c a b => exact key (do Pure.pure (if ← asBool (ρ c) then ρ a else ρ b)) (by refine Mild.bind (fun _ => ?_) (mild_asBool _); trivial) (by simp [execOp])
  | alloc t => exact key _ (mild_alloc t) rfl
  | box t x => exact key _ (mild_box t _) rfl
  | build t ps => exact key _ (mild_build t _) rfl
  | buildSlice t n ps => exact key _ (mild_buildSlice t n _) rfl
  | load t x => exact key _ (mild_loadAt t _) rfl
  | fieldAddr t x f => exact key _ (mild_fieldAt t _ f) rfl
  | field t x f => exact key _ (mild_field t _ f) rfl
  | indexAddr t x y => exact key _ (mild_indexAt t _ _) rfl
  | index t x y => exact key _ (mild_index t _ _) rfl
  | extract x i => exact key _ (mild_extract _ i) rfl
  | makeFunc f a b => exact key (Instr.makeFunc f (a.map ρ) (b.map ρ)) trivial rfl
  | unOp u t x => exact key _ (mild_unary u _) rfl
  | slice t x lo hi mx => exact key _ (mild_sliceAt t _ _ _ _) rfl
  | call c =>
    obtain ⟨cal, args, at_⟩ := c
    cases cal with
    | builtin bb =>
      cases bb <;> first | (cases hg; done) | skip
      · exact key (Builtin.len_ at_ ty (args.map ρ)) (mild_len _ _ _) rfl
      · exact key (Builtin.min_ at_ ty (args.map ρ)) (mild_min _ _ _) rfl
    | _ => cases hg
  | _ => cases hg

/-! ### an order of ours -/
def lst (m : Nat) : List Nat → Array Bool
  | [] => Array.replicate m false
  | i :: done => (lst m done).setIfInBounds i true

/-- what has been listed has all listed that it waits for -/
def Closed (ops : Array Oper) (listed : Array Bool) : Prop := ∀ j oj, ops[j]? = some oj → listed.getD j false = true → ∀ e ∈ oj.after, Region.binds .any e = true → listed.getD e.on false = true

/-- j waits for i, through others too -/
inductive Reaches (ops : Array Oper) (i : Nat) : Nat → Prop
  | one {j : Nat} {oj : Oper} {e : Edge} (hj : ops[j]? = some oj) (he : e ∈ oj.after) (hb : Region.binds .any e = true) (h : e.on = i) : Reaches ops i j
  | more {j : Nat} {oj : Oper} {e : Edge} (hj : ops[j]? = some oj) (he : e ∈ oj.after) (hb : Region.binds .any e = true) (h : Reaches ops i e.on) : Reaches ops i j
theorem Reaches.listed {ops : Array Oper} {listed : Array Bool} (hc : Closed ops listed) {i j : Nat} (h : Reaches ops i j) (hl : listed.getD j false = true) : listed.getD i false = true := by
  induction h with
  | one hj he hb h => rw [← h]; exact hc _ _ hj hl _ he hb
  | more hj he hb _ ih => exact ih (hc _ _ hj hl _ he hb)
/-- of each operation, the set of those that it waits for -/
def ancOf (acc : Array Nat) (o : Oper) : Nat := o.after.toList.foldl (fun s e => if Region.binds .any e then s ||| 2 ^ e.on ||| acc.getD e.on 0 else s) 0
def ancs (ops : Array Oper) : Array Nat := ops.toList.foldl (fun acc o => acc.push (ancOf acc o)) #[]
theorem ancOf_spec {ops : Array Oper} {acc : Array Nat} {j : Nat} {o : Oper} (hj : ops[j]? = some o) (hacc : ∀ k i, (acc.getD k 0).testBit i = true → Reaches ops i k) {i : Nat} (h : (ancOf acc o).testBit i = true) : Reaches ops i j := by
  have key : ∀ (l : List Edge) (s : Nat), (∀ e ∈ l, e ∈ o.after) → (s.testBit i = true → Reaches ops i j) → (l.foldl (fun s e => if Region.binds .any e then s ||| 2 ^ e.on ||| acc.getD e.on 0 else s) s).testBit i = true → Reaches ops i j := by
    intro l
    induction l with
    | nil => intro s _ hs h; exact hs h
    | cons e l ih =>
      intro s hl hs h
      refine ih _ (fun x hx => hl x (by simp [hx])) ?_ h
      intro h1
      dsimp only at h1
      split at h1
      · rename_i hb
        simp only [Nat.testBit_or, Bool.or_eq_true, Nat.testBit_two_pow, decide_eq_true_eq] at h1
        rcases h1 with (h1 | h1) | h1
        · exact hs h1
        · exact .one hj (hl e (by simp)) hb h1
        · exact .more hj (hl e (by simp)) hb (hacc _ _ h1)
      · exact hs h1
  exact key _ 0 (fun e he => by simpa using he) (fun h => by simp at h) h
theorem ancs_spec {ops : Array Oper} {i j : Nat} (h : ((ancs ops).getD j 0).testBit i = true) : Reaches ops i j := by
  have key : ∀ (l pre : List Oper) (acc : Array Nat), ops.toList = pre ++ l → acc.size = pre.length → (∀ k i, (acc.getD k 0).testBit i = true → Reaches ops i k) → ∀ k i, ((l.foldl (fun acc o => acc.push (ancOf acc o)) acc).getD k 0).testBit i = true → Reaches ops i k := by
    intro l
    induction l with
    | nil => intro pre acc _ _ hacc; exact hacc
    | cons o l ih =>
      intro pre acc hp hs hacc
      refine ih (pre ++ [o]) _ (by simp [hp]) (by simp [hs]) ?_
      intro k i h1
      by_cases hk : k < acc.size
      · refine hacc k i ?_
        rw [Array.getD_eq_getD_getElem?, Array.getElem?_push_lt hk] at h1
        rw [Array.getD_eq_getD_getElem?, Array.getElem?_eq_getElem hk]
        exact h1
      · by_cases hk2 : k = acc.size
        · subst hk2
          rw [Array.getD_eq_getD_getElem?, Array.getElem?_push_size] at h1
          have ho : ops[acc.size]? = some o := by
            rw [← Array.getElem?_toList, hp, hs]
            simp
          exact ancOf_spec ho hacc h1
        · rw [Array.getD_eq_getD_getElem?, Array.getElem?_eq_none (by simp; omega)] at h1
          simp at h1
  exact key ops.toList [] #[] rfl rfl (fun k i h => by simp at h) j i h
def waitsFor (ops : Array Oper) (A : Array Nat) (j i : Nat) : Bool := (A.getD j 0).testBit i
theorem waits_not_ready {ops : Array Oper} {listed : Array Bool} (hc : Closed ops listed) {j i : Nat} (h : waitsFor ops (ancs ops) j i = true) (hi : listed.getD i false = false) : j ∉ Region.ready .any ops listed := by
  intro hr
  obtain ⟨_, oj, hoj, hall⟩ := mem_ready.1 hr
  have hR := ancs_spec h
  cases hR with
  | one hj he hb h2 =>
    rw [hoj] at hj; cases hj
    have h1 := hall _ he hb
    rw [h2, hi] at h1; cases h1
  | more hj he hb h2 =>
    rw [hoj] at hj; cases hj
    have h1 := hall _ he hb
    rw [h2.listed hc h1] at hi; cases hi

theorem getD_both' {listed : Array Bool} {i : Nat} (h : listed.getD i true = false) : listed.getD i false = false := by
  rcases Nat.lt_or_ge i listed.size with h' | h'
  · simp [h'] at h ⊢; exact h
  · simp [Array.getElem?_eq_none h'] at h
theorem Closed.set {ops : Array Oper} {listed : Array Bool} (hc : Closed ops listed) {i : Nat} (hi : i ∈ Region.ready .any ops listed) : Closed ops (listed.setIfInBounds i true) := by
  obtain ⟨_, oi, hoi, hall⟩ := mem_ready.1 hi
  intro j oj hj hl e he hb
  by_cases hij : i = j
  · subst hij
    have : oj = oi := Option.some.inj (hj.symm.trans hoi)
    subst this
    exact getD_set_true (hall e he hb)
  · rw [getD_set_ne false hij] at hl
    exact getD_set_true (hc j oj hj hl e he hb)
theorem closed_start (ops : Array Oper) (m : Nat) : Closed ops (Array.replicate m false) := by
  intro j oj hj hl
  rcases Nat.lt_or_ge j m with h | h
  · simp [h] at hl
  · simp [Nat.not_lt.2 h] at hl

/-- the end of a region is its only end -/
def NQ (K : Act → World → Prop) : Exit → Act → World → Prop := fun x a w => x = .normal ∧ K a w
theorem nq_out {K : Act → World → Prop} : ¬ LetsOut (NQ K) := fun ⟨_, _, h⟩ => by cases h.1

section
variable {P : Program} {ops : Array Oper} {K0 : Act → World → Prop}
/-- in every world in which all of w is as it was, o yields v -/
def ReadsAt (P : Program) (ops : Array Oper) (o : Oper) (v : Value) (a : Act) (w : World) : Prop :=
  Region.wanted o (yielded ops a.tmps) = true ∧ ∀ w', Ext w w' → (execOp a.eval o).run P w' = .ok (.value v) w'
theorem ReadsAt.wpOp {i : Nat} {o : Oper} {v : Value} {a : Act} {w : World} (hi : ops[i]? = some o) (hy : ReadsAt P ops o v a w) {K : Act → World → Prop} {Q : Exit → Act → World → Prop} (h : K (a.put o.dst v) w) : wpOp P ops Q i K a w := by
  unfold Go.wpOp
  simp only [hi, hy.1, if_true]
  left
  unfold Oper.wp
  rw [hy.2 w (Ext.refl w)]
  exact h
theorem wpOp_read {j : Nat} {oi oj : Oper} {v : Value} (hj : ops[j]? = some oj) (hap : oi.apart ops oj = true) (hg : gentle oj.op = true) (hsi : ∀ cs b, oi.op ≠ .select cs b) {K : Act → World → Prop} {a : Act} {w : World}
    (hy : ReadsAt P ops oi v a w) (h : wpOp P ops (NQ K0) j K (a.put oi.dst v) w) : wpOp P ops (NQ K0) j (fun a' w' => ReadsAt P ops oi v a' w' ∧ K (a'.put oi.dst v) w') a w := by
  obtain ⟨h1, h2, h3⟩ := Oper.apart_spec hap
  have hsj : ∀ cs b, oj.op ≠ .select cs b := fun cs b e => by rw [e] at hg; cases hg
  have keep : ∀ (u : Value) (w' : World), Ext w w' → ReadsAt P ops oi v (a.put oj.dst u) w' := fun u w' hx => by
    refine ⟨by rw [wanted_put oi a oj.dst u h3]; exact hy.1, fun w'' hx' => ?_⟩
    rw [execOp_put oi hsi a oj.dst u h3]
    exact hy.2 w'' (hx.trans hx')
  unfold wpOp at *
  simp only [hj] at *
  rw [wanted_put oj a oi.dst v h1] at h
  split
  · rename_i hw
    simp only [hw, if_true] at h
    rcases h with h | ⟨_, hlets⟩
    case inr => exact absurd hlets nq_out
    refine .inl ?_
    unfold Oper.wp at *
    rw [execOp_put oj hsj a oi.dst v h1] at h
    cases hr : (execOp a.eval oj).run P w with
    | ok nx w' =>
      obtain ⟨⟨u, rfl⟩, hx⟩ := gentle_run hg hr
      rw [hr] at h
      simp only [Oper.upon] at h ⊢
      exact ⟨keep u w' hx, by rw [← Act.put_comm a v u h2]; exact h⟩
    | halt x w' =>
      rw [hr] at h
      cases x <;> simp only [Oper.upon] at h
      cases h.1
  · rename_i hw
    simp only [hw, Bool.false_eq_true, if_false] at h
    exact ⟨keep _ w (Ext.refl w), by rw [← Act.put_comm a v undef h2]; exact h⟩

theorem wpAny_read {i : Nat} {oi : Oper} {v : Value} (hi : ops[i]? = some oi) (hsi : ∀ cs b, oi.op ≠ .select cs b) :
    ∀ (fuel : Nat) (listed : Array Bool) (a : Act) (w : World), Closed ops listed →
      (∀ j oj, ops[j]? = some oj → j ≠ i → listed.getD j true = false → waitsFor ops (ancs ops) j i = false → oi.apart ops oj = true ∧ gentle oj.op = true) →
      i ∈ Region.ready .any ops listed → ReadsAt P ops oi v a w →
      wpAny P .any ops (NQ K0) fuel (listed.setIfInBounds i true) (a.put oi.dst v) w → wpAny P .any ops (NQ K0) (fuel + 1) listed a w := by
  intro fuel
  induction fuel with
  | zero =>
    intro listed a w hc _ hr hy H
    refine ⟨fun h => (by rw [h] at hr; cases hr), fun j hj => ?_⟩
    by_cases hji : j = i
    · subst hji; exact hy.wpOp hi H
    · have := ready_mono hj hji
      rw [H.1] at this
      cases this
  | succ fuel ih =>
    intro listed a w hc hfree hr hy H
    refine ⟨fun h => (by rw [h] at hr; cases hr), fun j hj => ?_⟩
    by_cases hji : j = i
    · subst hji; exact hy.wpOp hi H
    · have h1 := H.2 j (ready_mono hj hji)
      obtain ⟨hjun, oj, hoj, hall⟩ := mem_ready.1 hj
      have hun := getD_both' (mem_ready.1 hr).1
      have hnw : waitsFor ops (ancs ops) j i = false := by
        cases hq : waitsFor ops (ancs ops) j i
        · rfl
        · exact absurd hj (waits_not_ready hc hq hun)
      obtain ⟨hap, hg⟩ := hfree j oj hoj hji hjun hnw
      have h2 := wpOp_read hoj hap hg hsi hy h1
      refine wpOp_mono (fun a' w' h3 => ih (listed.setIfInBounds j true) a' w' (hc.set hj) ?_ (ready_mono hr (Ne.symm hji)) h3.1 ?_) h2
      · intro k ok hk hki hkun hno
        refine hfree k ok hk hki ?_ hno
        by_cases hjk : j = k
        · subst hjk; exact hjun
        · rw [getD_set_ne true hjk] at hkun; exact hkun
      · rw [Array.setIfInBounds_comm _ _ hji]
        exact h3.2
end

/-! ### the rules -/
def AL (P : Program) (n : Nat) (ops : Array Oper) (fuel : Nat) (done : List Nat) (K : Env → World → Prop) (e : Env) (w : World) : Prop :=
  Closed ops (lst ops.size done) → ∀ a, Rel n e a → wpAny P .any ops (NQ fun a' w' => ∃ e', Rel n e' a' ∧ K e' w') fuel (lst ops.size done) a w

/-- may a register operation be taken now? -/
def pureOk (ops : Array Oper) (done : List Nat) (i : Nat) : Bool := Region.noSelect ops && (Region.ready .any ops (lst ops.size done)).contains i && Region.free .any ops (lst ops.size done) i
/-- may a load be taken now? -/
def readOk (ops : Array Oper) (done : List Nat) (i : Nat) : Bool :=
  Region.noSelect ops && (Region.ready .any ops (lst ops.size done)).contains i &&
  match ops[i]? with
  | some oi => (List.range ops.size).all fun j => j == i || (lst ops.size done).getD j true || waitsFor ops (ancs ops) j i || (match ops[j]? with | some oj => oi.apart ops oj && gentle oj.op | none => true)
  | none => false

section
variable {P : Program} {n : Nat} {ops : Array Oper} {fuel : Nat} {done : List Nat} {K : Env → World → Prop} {el : List (Nat × Value)} {b : Env} {w : World} {dt : Nat} {op : Op} {ty : TypeId} {pos : String} {after : Array Edge} {v : Value} {e : Env} {Q : Exit → Env → World → Prop}

theorem wpAny_mono {md : Region.Mode} {Q Q' : Exit → Act → World → Prop} (hq : ∀ x a w, Q x a w → Q' x a w) : ∀ (f : Nat) (listed : Array Bool) (a : Act) (w : World), wpAny P md ops Q f listed a w → wpAny P md ops Q' f listed a w
  | 0, _, _, _, h => ⟨h.1, hq _ _ _ h.2⟩
  | f + 1, listed, a, w, h => by
    refine ⟨fun h0 => hq _ _ _ (h.1 h0), fun i hi => ?_⟩
    have h1 := h.2 i hi
    have h2 : wpOp P ops Q i (wpAny P md ops Q' f (listed.setIfInBounds i true)) a w := wpOp_mono (fun a w h => wpAny_mono hq f _ a w h) h1
    unfold wpOp at h2 ⊢
    split
    · rename_i ho; simp only [ho] at h2; exact h2
    · rename_i o ho
      simp only [ho] at h2
      split
      · rename_i hw
        rw [if_pos hw] at h2
        rcases h2 with h2 | ⟨ha, a0, w0, h0⟩
        · left
          unfold Oper.wp at h2 ⊢
          generalize (execOp a.eval o).run P w = r at *
          cases r with
          | ok nx w' =>
            cases nx <;> simp only [Oper.upon] at h2 ⊢ <;> first | exact h2 | skip
            exact h2.mono fun en w'' hh => by
              cases en with
              | returned v => exact hh
              | panicked ch => exact hq _ _ _ hh
              | outgrown => obtain ⟨a0, w0, h0⟩ := hh; exact ⟨a0, w0, hq _ _ _ h0⟩
          | halt x w' => cases x <;> simp only [Oper.upon] at h2 ⊢ <;> first | exact h2 | exact hq _ _ _ h2
        · exact .inr ⟨ha, a0, w0, hq _ _ _ h0⟩
      · rename_i hw; rw [if_neg hw] at h2; exact h2

theorem WP.any [hm : Mixed P] {i : Nat} {l : List Oper} (h : ∀ w', Ext w w' → AL P n l.toArray l.length [] (Q .normal) e w') : WP P n (.region i l.toArray true) Q e w := by
  unfold WP
  intro a ha
  refine wp_region_any hm.h ?_
  have h1 := h { w with drawn := w.drawn + 1 } (Ext.drew w) (closed_start _ _) a ha
  have h2 := wpAny_mono (Q' := fun x a' w' => ∃ e', Rel n e' a' ∧ Q x e' w') (fun x a w hh => by obtain ⟨rfl, e', hr, hk⟩ := hh; exact ⟨e', hr, hk⟩) _ _ _ _ h1
  simpa [lst] using h2

theorem AL.nil (hr : Region.ready .any ops (lst ops.size done) = []) (h : K e w) : AL P n ops fuel done K e w := by
  intro hc a ha
  exact wpAny_done hr ⟨rfl, e, ha, h⟩ fuel
theorem AL.p (i : Nat) (hB : pureOk ops done i = true) (hi : ops[i]? = some ⟨some dt, op, ty, pos, after, none⟩) (hp : Pure P (look el b) op v) (hd : Nat.blt dt n = true)
    (k : AL P n ops fuel (i :: done) K (look ((dt, v) :: el) b) w) : AL P n ops (fuel + 1) done K (look el b) w := by
  intro hc a ha
  simp only [pureOk, Bool.and_eq_true] at hB
  have hmem : i ∈ Region.ready .any ops (lst ops.size done) := by simpa using hB.1.2
  refine wpAny_take hi hB.1.1 hB.2 hB.1.2 (fun c a w h => ?_) (.inl ⟨wanted_none rfl _, fun w' => ?_⟩) (k (hc.set hmem) _ (ha.put (d := some dt) hd v))
  · cases h.1
  · rw [ha.eval]; exact hp w' _ _ _ _ _
theorem AL.m (i : Nat) (hB : readOk ops done i = true) (hi : ops[i]? = some ⟨some dt, op, ty, pos, after, none⟩) (hp : Does P (look el b) w op v) (hd : Nat.blt dt n = true)
    (k : AL P n ops fuel (i :: done) K (look ((dt, v) :: el) b) w) : AL P n ops (fuel + 1) done K (look el b) w := by
  intro hc a ha
  simp only [readOk, Bool.and_eq_true] at hB
  have hmem : i ∈ Region.ready .any ops (lst ops.size done) := by simpa using hB.1.2
  have hall := hB.2
  rw [hi] at hall
  refine wpAny_read hi (fun cs b => Region.noSelect_spec hB.1.1 i _ cs b hi) fuel _ a w hc ?_ hmem ⟨wanted_none rfl _, fun w' hw' => ?_⟩ (k (hc.set hmem) _ (ha.put (d := some dt) hd v))
  · intro j oj hj hji hun hnw
    have hlt : j < ops.size := (Array.getElem?_eq_some_iff.1 hj).1
    have h1 := List.all_eq_true.1 hall j (List.mem_range.2 hlt)
    simp only [hj, hun, hnw, Bool.or_false, Bool.or_eq_true, beq_iff_eq, hji, false_or, Bool.and_eq_true] at h1
    exact h1
  · rw [ha.eval]; exact hp w' hw' _ _ _ _ _
/-- a guarded register operation whose guard says yes -/
theorem AL.pg (i : Nat) {j dj : Nat} {want c : Bool} (hB : pureOk ops done i = true) (hi : ops[i]? = some ⟨some dt, op, ty, pos, after, some (j, want)⟩) (hj : (ops[j]?).bind (·.dst) = some dj) (he : look el b dj = .bool c) (hc : (c == want) = true) (hp : Pure P (look el b) op v) (hd : Nat.blt dt n = true)
    (k : AL P n ops fuel (i :: done) K (look ((dt, v) :: el) b) w) : AL P n ops (fuel + 1) done K (look el b) w := by
  intro hcl a ha
  simp only [pureOk, Bool.and_eq_true] at hB
  have hmem : i ∈ Region.ready .any ops (lst ops.size done) := by simpa using hB.1.2
  refine wpAny_take hi hB.1.1 hB.2 hB.1.2 (fun c a w h => ?_) (.inl ⟨by rw [wanted_guard rfl hj he a ha]; exact hc, fun w' => ?_⟩) (k (hcl.set hmem) _ (ha.put (d := some dt) hd v))
  · cases h.1
  · rw [ha.eval]; exact hp w' _ _ _ _ _
theorem AL.mg (i : Nat) {j dj : Nat} {want c : Bool} (hB : readOk ops done i = true) (hi : ops[i]? = some ⟨some dt, op, ty, pos, after, some (j, want)⟩) (hj : (ops[j]?).bind (·.dst) = some dj) (he : look el b dj = .bool c) (hc : (c == want) = true) (hp : Does P (look el b) w op v) (hd : Nat.blt dt n = true)
    (k : AL P n ops fuel (i :: done) K (look ((dt, v) :: el) b) w) : AL P n ops (fuel + 1) done K (look el b) w := by
  intro hcl a ha
  simp only [readOk, Bool.and_eq_true] at hB
  have hmem : i ∈ Region.ready .any ops (lst ops.size done) := by simpa using hB.1.2
  have hall := hB.2
  rw [hi] at hall
  refine wpAny_read hi (fun cs b => Region.noSelect_spec hB.1.1 i _ cs b hi) fuel _ a w hcl ?_ hmem ⟨by rw [wanted_guard rfl hj he a ha]; exact hc, fun w' hw' => ?_⟩ (k (hcl.set hmem) _ (ha.put (d := some dt) hd v))
  · intro j oj hj hji hun hnw
    have hlt : j < ops.size := (Array.getElem?_eq_some_iff.1 hj).1
    have h1 := List.all_eq_true.1 hall j (List.mem_range.2 hlt)
    simp only [hj, hun, hnw, Bool.or_false, Bool.or_eq_true, beq_iff_eq, hji, false_or, Bool.and_eq_true] at h1
    exact h1
  · rw [ha.eval]; exact hp w' hw' _ _ _ _ _
/-- a truth that is known to be -/
theorem AL.mvT (i : Nat) {x : Operand} {p : Prop} {dp : Decidable p} (hB : pureOk ops done i = true) (hi : ops[i]? = some ⟨some dt, .move x, ty, pos, after, none⟩) (hx : ev (look el b) x = .bool (@decide p dp)) (h : p) (hd : Nat.blt dt n = true)
    (k : AL P n ops fuel (i :: done) K (look ((dt, .bool true) :: el) b) w) : AL P n ops (fuel + 1) done K (look el b) w := by
  refine AL.p i hB hi (v := .bool true) ?_ hd k
  have := mv (P := P) (e := look el b) x
  rwa [hx, decide_eq_true h] at this
/-- the guard says no -/
theorem AL.no (i : Nat) {j dj : Nat} {want c : Bool} (hB : pureOk ops done i = true) (hi : ops[i]? = some ⟨some dt, op, ty, pos, after, some (j, want)⟩) (hj : (ops[j]?).bind (·.dst) = some dj) (he : look el b dj = .bool c) (hc : (c == want) = false) (hd : Nat.blt dt n = true)
    (k : AL P n ops fuel (i :: done) K (look ((dt, undef) :: el) b) w) : AL P n ops (fuel + 1) done K (look el b) w := by
  intro hcl a ha
  simp only [pureOk, Bool.and_eq_true] at hB
  have hmem : i ∈ Region.ready .any ops (lst ops.size done) := by simpa using hB.1.2
  refine wpAny_take hi hB.1.1 hB.2 hB.1.2 (fun c a w h => ?_) (.inr ⟨by rw [wanted_guard rfl hj he a ha]; exact hc, rfl⟩) (k (hcl.set hmem) _ (ha.put (d := some dt) hd undef))
  cases h.1
/-- the only one that may come up -/
theorem AL.o (i : Nat) {o : Oper} (hB : Region.ready .any ops (lst ops.size done) = [i]) (hi : ops[i]? = some o) (h : RL P n ops [o] (AL P n ops fuel (i :: done) K) e w) : AL P n ops (fuel + 1) done K e w := by
  intro hc a ha
  refine wpAny_all hB (by simp) ?_
  intro j hj
  have : j = i := by simpa using hj
  subst this
  have hmem : j ∈ Region.ready .any ops (lst ops.size done) := by rw [hB]; simp
  unfold RL at h
  have h1 := h a ha
  unfold wpOp
  simp only [hi]
  unfold wpList at h1
  have key : ∀ a w, wpList P ops (fun x a' w' => x = .normal ∧ ∃ e', Rel n e' a' ∧ AL P n ops fuel (j :: done) K e' w') [] a w → wpAny P .any ops (NQ fun a' w' => ∃ e', Rel n e' a' ∧ K e' w') fuel ((lst ops.size done).setIfInBounds j true) a w := by
    rintro a w ⟨_, e', hr, hk⟩
    exact hk (hc.set hmem) a hr
  split at h1
  · rename_i hw
    rw [if_pos hw]
    rcases h1 with h1 | ⟨_, a0, w0, h0⟩
    · left
      unfold Oper.wp at h1 ⊢
      generalize (execOp a.eval o).run P w = r at *
      cases r with
      | ok nx w' =>
        cases nx <;> simp only [Oper.upon] at h1 ⊢ <;> first | exact key _ _ h1 | exact h1.elim | skip
        · exact h1.mono fun en w'' hh => by
            cases en with
            | returned v => exact key _ _ hh
            | panicked ch => cases hh.1
            | outgrown => obtain ⟨a0, w0, h0⟩ := hh; cases h0.1
        · exact h1.mono fun v w'' hh => key _ _ hh
      | halt x w' =>
        cases x <;> simp only [Oper.upon] at h1
        cases h1.1
    · cases h0.1
  · rename_i hw
    rw [if_neg hw]
    exact key _ _ h1
/-- any one of those that may come up -/
theorem AL.all {rs : List Nat} (hB : Region.ready .any ops (lst ops.size done) = rs) (hne : rs.isEmpty = false) (h : ∀ i ∈ rs, ∃ o, ops[i]? = some o ∧ RL P n ops [o] (AL P n ops fuel (i :: done) K) e w) : AL P n ops (fuel + 1) done K e w := by
  intro hc a ha
  refine wpAny_all hB (by intro h; rw [h] at hne; cases hne) ?_
  intro j hj
  obtain ⟨o, hi, h⟩ := h j hj
  have hmem : j ∈ Region.ready .any ops (lst ops.size done) := by rw [hB]; exact hj
  unfold RL at h
  have h1 := h a ha
  unfold wpOp
  simp only [hi]
  unfold wpList at h1
  have key : ∀ a w, wpList P ops (fun x a' w' => x = .normal ∧ ∃ e', Rel n e' a' ∧ AL P n ops fuel (j :: done) K e' w') [] a w → wpAny P .any ops (NQ fun a' w' => ∃ e', Rel n e' a' ∧ K e' w') fuel ((lst ops.size done).setIfInBounds j true) a w := by
    rintro a w ⟨_, e', hr, hk⟩
    exact hk (hc.set hmem) a hr
  split at h1
  · rename_i hw
    rw [if_pos hw]
    rcases h1 with h1 | ⟨_, a0, w0, h0⟩
    · left
      unfold Oper.wp at h1 ⊢
      generalize (execOp a.eval o).run P w = r at *
      cases r with
      | ok nx w' =>
        cases nx <;> simp only [Oper.upon] at h1 ⊢ <;> first | exact key _ _ h1 | exact h1.elim | skip
        · exact h1.mono fun en w'' hh => by
            cases en with
            | returned v => exact key _ _ hh
            | panicked ch => cases hh.1
            | outgrown => obtain ⟨a0, w0, h0⟩ := hh; cases h0.1
        · exact h1.mono fun v w'' hh => key _ _ hh
      | halt x w' =>
        cases x <;> simp only [Oper.upon] at h1
        cases h1.1
    · cases h0.1
  · rename_i hw
    rw [if_neg hw]
    exact key _ _ h1
theorem look_swap {d d' : Nat} (h : Nat.beq d d' = false) (u v : Value) (el : List (Nat × Value)) (b : Env) : look ((d, u) :: (d', v) :: el) b = look ((d', v) :: (d, u) :: el) b := by
  funext t
  have hne : d ≠ d' := fun e => by subst e; simp at h
  simp only [look]
  cases h1 : Nat.beq t d with
  | true =>
    have : t = d := Nat.eq_of_beq_eq_true h1
    subst this
    rw [h]; rfl
  | false => rfl
theorem AL.swap {i j : Nat} (hij : i ≠ j) (h : AL P n ops fuel (i :: j :: done) K e w) : AL P n ops fuel (j :: i :: done) K e w := by
  unfold AL at *
  have : lst ops.size (j :: i :: done) = lst ops.size (i :: j :: done) := by
    simp only [lst]
    exact Array.setIfInBounds_comm _ _ hij
  rw [this]
  exact h
/-- two that may come up in either order -/
theorem AL.two (i j : Nat) {oi oj : Oper} {di dj : Nat} (Ri Rj : Value → World → Prop) (hB : Region.ready .any ops (lst ops.size done) = [i, j]) (hBi : Region.ready .any ops (lst ops.size (i :: done)) = [j]) (hBj : Region.ready .any ops (lst ops.size (j :: done)) = [i])
    (hi : ops[i]? = some oi) (hj : ops[j]? = some oj) (hij : Nat.beq i j = false) (hd : Nat.beq di dj = false)
    (pi : ∀ u w1 w2, Ri u w1 → Ext w1 w2 → Ri u w2) (pj : ∀ u w1 w2, Rj u w1 → Ext w1 w2 → Rj u w2)
    (h1 : RL P n ops [oi] (fun e' w' => ∃ u, e' = look ((di, u) :: el) b ∧ Ext w w' ∧ Ri u w') (look el b) w)
    (h2 : ∀ u w1, Ext w w1 → RL P n ops [oj] (fun e' w' => ∃ v, e' = look ((dj, v) :: (di, u) :: el) b ∧ Ext w1 w' ∧ Rj v w') (look ((di, u) :: el) b) w1)
    (h3 : RL P n ops [oj] (fun e' w' => ∃ u, e' = look ((dj, u) :: el) b ∧ Ext w w' ∧ Rj u w') (look el b) w)
    (h4 : ∀ u w1, Ext w w1 → RL P n ops [oi] (fun e' w' => ∃ v, e' = look ((di, v) :: (dj, u) :: el) b ∧ Ext w1 w' ∧ Ri v w') (look ((dj, u) :: el) b) w1)
    (k : ∀ u v w', Ext w w' → Ri u w' → Rj v w' → AL P n ops fuel (j :: i :: done) K (look ((dj, v) :: (di, u) :: el) b) w') : AL P n ops (fuel + 2) done K (look el b) w := by
  have hne : i ≠ j := fun e => by subst e; simp at hij
  refine AL.all hB rfl (fun x hx => ?_)
  simp only [List.mem_cons, List.not_mem_nil, or_false] at hx
  rcases hx with rfl | rfl
  · refine ⟨oi, hi, h1.mono ?_⟩
    rintro e' w' ⟨u, rfl, hx1, hr1⟩
    refine AL.o j hBi hj ((h2 u w' hx1).mono ?_)
    rintro e' w'' ⟨v, rfl, hx2, hr2⟩
    exact k u v w'' (hx1.trans hx2) (pi _ _ _ hr1 hx2) hr2
  · refine ⟨oj, hj, h3.mono ?_⟩
    rintro e' w' ⟨u, rfl, hx1, hr1⟩
    refine AL.o i hBj hi ((h4 u w' hx1).mono ?_)
    rintro e' w'' ⟨v, rfl, hx2, hr2⟩
    rw [look_swap hd]
    exact AL.swap (Ne.symm hne) (k v u w'' (hx1.trans hx2) hr2 (pj _ _ _ hr1 hx2))
end
attribute [irreducible] AL
end Go.Eng
