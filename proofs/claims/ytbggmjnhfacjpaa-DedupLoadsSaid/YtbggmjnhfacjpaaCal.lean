/-
  Regions that draw their order: a call that turns nothing that was there, and loads that may stand ahead of it or behind it: the loads are taken first, whichever stood first.
-/
import Derived.Test.YtbggmjnhfacjpaaAl
set_option linter.unusedVariables false
namespace Go.Eng
open Go Go.RowKit

/-- the region, where operation c (not listed yet) is a call that hands back u in w' with R w u w' -/
def wpX (P : Program) (ops : Array Oper) (K0 : Act → World → Prop) (c : Nat) (dc : Option Tmp) (R : World → Value → World → Prop) : Nat → Array Bool → Act → World → Prop
  | 0, listed, a, w => Region.ready .any ops listed = [] ∧ NQ K0 .normal a w
  | fuel + 1, listed, a, w =>
    (Region.ready .any ops listed = [] → NQ K0 .normal a w) ∧
    ∀ j ∈ Region.ready .any ops listed, (j = c → ∀ u w', R w u w' → wpAny P .any ops (NQ K0) fuel (listed.setIfInBounds j true) (a.put dc u) w') ∧ (j ≠ c → wpOp P ops (NQ K0) j (wpX P ops K0 c dc R fuel (listed.setIfInBounds j true)) a w)

section
variable {P : Program} {ops : Array Oper} {K0 : Act → World → Prop} {c : Nat} {dc : Option Tmp} {R : World → Value → World → Prop}
theorem wpOp_gentle {j : Nat} {oj : Oper} (hj : ops[j]? = some oj) (hg : gentle oj.op = true) {K : Act → World → Prop} {a : Act} {w : World} (h : wpOp P ops (NQ K0) j K a w) : wpOp P ops (NQ K0) j (fun a' w' => K a' w' ∧ (∃ u, a' = a.put oj.dst u) ∧ Ext w w') a w := by
  unfold wpOp at *
  simp only [hj] at *
  split
  · rename_i hw
    simp only [hw, if_true] at h
    rcases h with h | ⟨_, hlets⟩
    case inr => exact absurd hlets nq_out
    refine .inl ?_
    unfold Oper.wp at *
    cases hr : (execOp a.eval oj).run P w with
    | ok nx w' =>
      obtain ⟨⟨u, rfl⟩, hx⟩ := gentle_run hg hr
      rw [hr] at h
      simp only [Oper.upon] at h ⊢
      exact ⟨h, ⟨u, rfl⟩, hx⟩
    | halt x w' =>
      rw [hr] at h
      cases x <;> simp only [Oper.upon] at h
      cases h.1
  · rename_i hw
    simp only [hw, Bool.false_eq_true, if_false] at h
    exact ⟨h, ⟨undef, rfl⟩, Ext.refl w⟩
/-- what is asked of an operation that may come up ahead of a load i -/
def freeX (ops : Array Oper) (c i : Nat) (oi : Oper) (listed : Array Bool) : Prop := ∀ j oj, ops[j]? = some oj → j ≠ i → listed.getD j true = false → waitsFor ops (ancs ops) j i = false → oi.apart ops oj = true ∧ (j ≠ c → gentle oj.op = true)
theorem wpX_read {i : Nat} {oi oc : Oper} {v : Value} (hi : ops[i]? = some oi) (hoc : ops[c]? = some oc) (hdc : dc = oc.dst) (hic : i ≠ c) (hsi : ∀ cs b, oi.op ≠ .select cs b) (hR : ∀ w u w', R w u w' → Ext w w') :
    ∀ (fuel : Nat) (listed : Array Bool) (a : Act) (w : World), Closed ops listed → freeX ops c i oi listed → listed.getD c false = false →
      i ∈ Region.ready .any ops listed → ReadsAt P ops oi v a w →
      wpX P ops K0 c dc R fuel (listed.setIfInBounds i true) (a.put oi.dst v) w → wpX P ops K0 c dc R (fuel + 1) listed a w := by
  intro fuel
  induction fuel with
  | zero =>
    intro listed a w hc _ hcu hr hy H
    refine ⟨fun h => (by rw [h] at hr; cases hr), fun j hj => ?_⟩
    by_cases hji : j = i
    · subst hji; exact ⟨fun h => absurd h hic, fun _ => hy.wpOp hi H⟩
    · have := ready_mono hj hji
      rw [H.1] at this
      cases this
  | succ fuel ih =>
    intro listed a w hc hfree hcu hr hy H
    refine ⟨fun h => (by rw [h] at hr; cases hr), fun j hj => ?_⟩
    by_cases hji : j = i
    · subst hji; exact ⟨fun h => absurd h hic, fun _ => hy.wpOp hi H⟩
    · have h1 := H.2 j (ready_mono hj hji)
      obtain ⟨hjun, oj, hoj, hall⟩ := mem_ready.1 hj
      have hun := getD_both' (mem_ready.1 hr).1
      have hnw : waitsFor ops (ancs ops) j i = false := by
        cases hq : waitsFor ops (ancs ops) j i
        · rfl
        · exact absurd hj (waits_not_ready hc hq hun)
      obtain ⟨hap, hg⟩ := hfree j oj hoj hji hjun hnw
      have hnext : ∀ k ok, ops[k]? = some ok → k ≠ i → (listed.setIfInBounds j true).getD k true = false → waitsFor ops (ancs ops) k i = false → listed.getD k true = false := by
        intro k ok hk hki hkun hno
        by_cases hjk : j = k
        · subst hjk; exact hjun
        · rw [getD_set_ne true hjk] at hkun; exact hkun
      refine ⟨fun hjc u w' hu => ?_, fun hjc => ?_⟩
      · subst hjc
        have h2 := h1.1 rfl u w' hu
        obtain ⟨p1, p2, p3⟩ := Oper.apart_spec hap
        have e : oj = oc := Option.some.inj (hoj.symm.trans hoc)
        subst e
        subst hdc
        refine wpAny_read (v := v) hi hsi fuel (listed.setIfInBounds j true) (a.put oj.dst u) w' (hc.set hj) ?_ (ready_mono hr (Ne.symm hji)) ?_ ?_
        · intro k ok hk hki hkun hno
          have h3 := hfree k ok hk hki (hnext k ok hk hki hkun hno) hno
          refine ⟨h3.1, h3.2 ?_⟩
          rintro rfl
          have hlt : k < listed.size := by
            rcases Nat.lt_or_ge k listed.size with h' | h'
            · exact h'
            · simp [Array.getElem?_eq_none h'] at hjun
          simp [hlt] at hkun
        · refine ⟨by rw [wanted_put oi a oj.dst u p3]; exact hy.1, fun w'' hx' => ?_⟩
          rw [execOp_put oi hsi a oj.dst u p3]
          exact hy.2 w'' ((hR _ _ _ hu).trans hx')
        · rw [Array.setIfInBounds_comm _ _ hji, ← Act.put_comm a v u p2]
          exact h2
      · have h2 := wpOp_read hoj hap (hg hjc) hsi hy (h1.2 hjc)
        refine wpOp_mono (fun a' w' h3 => ih (listed.setIfInBounds j true) a' w' (hc.set hj) ?_ ?_ (ready_mono hr (Ne.symm hji)) h3.1 ?_) h2
        · intro k ok hk hki hkun hno
          exact hfree k ok hk hki (hnext k ok hk hki hkun hno) hno
        · rw [getD_set_ne false hjc]; exact hcu
        · rw [Array.setIfInBounds_comm _ _ hji]
          exact h3.2
/-- from the contract of the call -/
theorem wpX_sound {oc : Oper} (hoc : ops[c]? = some oc) (hdc : dc = oc.dst) (hsc : ∀ cs b, oc.op ≠ .select cs b) {f : FuncId} {args : Array Value} :
    ∀ (fuel : Nat) (listed : Array Bool) (a : Act) (w : World), Closed ops listed → listed.getD c false = false →
      (∀ j oj, ops[j]? = some oj → j ≠ c → listed.getD j true = false → waitsFor ops (ancs ops) j c = false → oc.apart ops oj = true ∧ gentle oj.op = true) →
      Region.wanted oc (yielded ops a.tmps) = true → (∀ w', (execOp a.eval oc).run P w' = .ok (.enter f args) w') →
      (∀ w', Ext w w' → Calls P f args w' fun x w'' => ∃ u, x = .returned u ∧ R w' u w'') →
      wpX P ops K0 c dc R fuel listed a w → wpAny P .any ops (NQ K0) fuel listed a w := by
  intro fuel
  induction fuel with
  | zero => intro listed a w _ _ _ _ _ _ H; exact H
  | succ fuel ih =>
    intro listed a w hc hcu hfree hwt hrun hct H
    refine ⟨H.1, fun j hj => ?_⟩
    have h1 := H.2 j hj
    by_cases hjc : j = c
    · subst hjc
      unfold wpOp
      simp only [hoc, hwt, if_true]
      left
      unfold Oper.wp
      rw [hrun w]
      refine Calls.mono (hct w (Ext.refl w)) ?_
      rintro x w'' ⟨u, rfl, hu⟩
      have := h1.1 rfl u w'' hu
      subst hdc
      exact this
    · obtain ⟨hjun, oj, hoj, hall⟩ := mem_ready.1 hj
      have hnw : waitsFor ops (ancs ops) j c = false := by
        cases hq : waitsFor ops (ancs ops) j c
        · rfl
        · exact absurd hj (waits_not_ready hc hq hcu)
      obtain ⟨hap, hg⟩ := hfree j oj hoj hjc hjun hnw
      obtain ⟨_, _, p3⟩ := Oper.apart_spec hap
      refine wpOp_mono ?_ (wpOp_gentle hoj hg (h1.2 hjc))
      rintro a' w' ⟨h3, ⟨u, rfl⟩, hx⟩
      refine ih _ _ w' (hc.set hj) (by rw [getD_set_ne false hjc]; exact hcu) ?_ (by rw [wanted_put oc a oj.dst u p3]; exact hwt) (fun w'' => by rw [execOp_put oc hsc a oj.dst u p3]; exact hrun w'') (fun w'' hx' => hct w'' (hx.trans hx')) h3
      intro k ok hk hkc hkun hno
      refine hfree k ok hk hkc ?_ hno
      by_cases hjk : j = k
      · subst hjk; exact hjun
      · rw [getD_set_ne true hjk] at hkun; exact hkun
end

/-! ### the rules -/
def AX (P : Program) (n : Nat) (ops : Array Oper) (c : Nat) (dc : Nat) (R : World → Value → World → Prop) (fuel : Nat) (done : List Nat) (K : Env → World → Prop) (e : Env) (w : World) : Prop :=
  Closed ops (lst ops.size done) → ∀ a, Rel n e a → wpX P ops (fun a' w' => ∃ e', Rel n e' a' ∧ K e' w') c (some dc) R fuel (lst ops.size done) a w
/-- may a call be set aside? -/
def callOk (ops : Array Oper) (done : List Nat) (c : Nat) : Bool :=
  !(lst ops.size done).getD c false &&
  match ops[c]? with
  | some oc => (List.range ops.size).all fun j => j == c || (lst ops.size done).getD j true || waitsFor ops (ancs ops) j c || (match ops[j]? with | some oj => oc.apart ops oj && gentle oj.op | none => true)
  | none => false
/-- may a load be taken, where call c is set aside? -/
def readX (ops : Array Oper) (done : List Nat) (c i : Nat) : Bool :=
  Region.noSelect ops && (Region.ready .any ops (lst ops.size done)).contains i && !(lst ops.size done).getD c false && !(i == c) &&
  match ops[i]? with
  | some oi => (List.range ops.size).all fun j => j == i || (lst ops.size done).getD j true || waitsFor ops (ancs ops) j i || (match ops[j]? with | some oj => oi.apart ops oj && (j == c || gentle oj.op) | none => true)
  | none => false
section
variable {P : Program} {n : Nat} {ops : Array Oper} {fuel : Nat} {done : List Nat} {K : Env → World → Prop} {el : List (Nat × Value)} {b : Env} {w : World} {dt dc : Nat} {op oc : Op} {ty tc : TypeId} {pos pc : String} {after ac : Array Edge} {v : Value} {R : World → Value → World → Prop}
theorem AL.x (c : Nat) {f : FuncId} {xs : List Operand} {at_ : Array TypeId} {vs : List Value} {Q : World → Value → World → Prop} (hB : callOk ops done c = true) (hi : ops[c]? = some ⟨some dc, .call { callee := .value (.func f), args := xs.toArray, argTypes := at_ }, tc, pc, ac, none⟩)
    (ha : xs.map (ev (look el b)) = vs) (hct : ∀ w', Ext w w' → Ct P f vs.toArray w' fun u w'' => Q w' u w'' ∧ Ext w' w'')
    (k : AX P n ops c dc (fun w' u w'' => Q w' u w'' ∧ Ext w' w'') fuel done K (look el b) w) : AL P n ops fuel done K (look el b) w := by
  unfold AX at k
  unfold AL
  intro hc a hr
  have hk := k hc a hr
  simp only [callOk, Bool.and_eq_true, Bool.not_eq_true'] at hB
  obtain ⟨hcu, hall⟩ := hB
  rw [hi] at hall
  refine wpX_sound hi rfl (fun cs b e => by cases e) fuel _ a w hc hcu ?_ (wanted_none rfl _) (f := f) (args := vs.toArray) (fun w' => ?_) (fun w' hx => (hct w' hx).2) hk
  · intro j oj hj hjc hun hnw
    have hlt : j < ops.size := (Array.getElem?_eq_some_iff.1 hj).1
    have h1 := List.all_eq_true.1 hall j (List.mem_range.2 hlt)
    simp only [hj, hun, hnw, Bool.or_false, Bool.or_eq_true, beq_iff_eq, hjc, false_or, Bool.and_eq_true] at h1
    exact h1
  · have := run_call (P := P) (ρ := ev (look el b)) (f := f) (xs := xs) (at_ := at_) (first := []) (captured := []) (fo := .func f) (ty := tc) (pos := pc) (after := ac) rfl (hct w (Ext.refl w)).1 (some dc) none w'
    rw [hr.eval]
    simpa [ha] using this
theorem AX.m (i : Nat) {c : Nat} {Q : World → Value → World → Prop} (hB : readX ops done c i = true) (hi : ops[i]? = some ⟨some dt, op, ty, pos, after, none⟩) (hc : (ops[c]?).bind (·.dst) = some dc) (hp : Does P (look el b) w op v) (hd : Nat.blt dt n = true)
    (k : AX P n ops c dc (fun w' u w'' => Q w' u w'' ∧ Ext w' w'') fuel (i :: done) K (look ((dt, v) :: el) b) w) : AX P n ops c dc (fun w' u w'' => Q w' u w'' ∧ Ext w' w'') (fuel + 1) done K (look el b) w := by
  unfold AX at *
  intro hcl a ha
  simp only [readX, Bool.and_eq_true, Bool.not_eq_true'] at hB
  obtain ⟨⟨⟨⟨h1, h2⟩, h3⟩, h4⟩, h5⟩ := hB
  have hmem : i ∈ Region.ready .any ops (lst ops.size done) := by simpa using h2
  rw [hi] at h5
  cases hoc : ops[c]? with
  | none => rw [hoc] at hc; cases hc
  | some oc =>
    rw [hoc] at hc
    refine wpX_read hi hoc (by simpa using hc.symm) (by simpa using h4) (fun cs b => Region.noSelect_spec h1 i _ cs b hi) (fun _ _ _ h => h.2) fuel _ a w hcl ?_ h3 hmem ⟨wanted_none rfl _, fun w' hw' => ?_⟩ (k (hcl.set hmem) _ (ha.put (d := some dt) hd v))
    · intro j oj hj hji hun hnw
      have hlt : j < ops.size := (Array.getElem?_eq_some_iff.1 hj).1
      have h6 := List.all_eq_true.1 h5 j (List.mem_range.2 hlt)
      simp only [hj, hun, hnw, Bool.or_false, Bool.or_eq_true, beq_iff_eq, hji, false_or, Bool.and_eq_true] at h6
      exact ⟨h6.1, fun hjc => by rcases h6.2 with h7 | h7; exact absurd h7 hjc; exact h7⟩
    · rw [ha.eval]; exact hp w' hw' _ _ _ _ _
/-- the call is the only one that may come up -/
theorem AX.o {c : Nat} {Q : World → Value → World → Prop} (hB : Region.ready .any ops (lst ops.size done) = [c]) (hd : Nat.blt dc n = true)
    (k : ∀ u w', Q w u w' ∧ Ext w w' → AL P n ops fuel (c :: done) K (look ((dc, u) :: el) b) w') : AX P n ops c dc (fun w' u w'' => Q w' u w'' ∧ Ext w' w'') (fuel + 1) done K (look el b) w := by
  unfold AX
  unfold AL at k
  intro hc a ha
  have hmem : c ∈ Region.ready .any ops (lst ops.size done) := by rw [hB]; simp
  refine ⟨fun h => (by rw [h] at hB; cases hB), fun j hj => ?_⟩
  have hjc : j = c := by rw [hB] at hj; simpa using hj
  subst hjc
  refine ⟨fun _ u w' hu => ?_, fun h => absurd rfl h⟩
  exact k u w' hu (hc.set hmem) _ (ha.put (d := some dc) hd u)
end
attribute [irreducible] AX
end Go.Eng
