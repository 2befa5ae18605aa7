/-
  A range over a function (slices.Values of texts) in the calculus: the loop's body is walked by the calculus, in a round's frame.
-/
import Derived.Test.YtdcckaamepilcaaKeys
import Derived.Test.YtdcckaamepilcaaAl
import Derived.RangeFuncNested
import Derived.RangeFuncCalls
import Derived.RangeFuncLeaves
import Derived.OwnWalkIn
set_option linter.unusedVariables false
namespace Go.Eng
open Go Go.RowKit Go.Proofs

/-- nothing is deferred -/
def calm (o : Oper) : Bool := match o.op with
  | .defer _ => false
  | _ => true
theorem calm_no {o : Oper} (h : calm o = true) : ∀ c, o.op ≠ .defer c := fun c e => by unfold calm at h; rw [e] at h; cases h
abbrev rnd (l : Nat) : Fence := Fence.wide.inRound l
section
variable {P : Program} {l m : Nat}
theorem rowsIn_rnd {row : String} {args : Array Value} {w : World} {R : Value → World → Prop} (h : Rows P row args w R) : RowsIn (rnd l) m P row args w R :=
  fun c cs _ => let ⟨v, w', r, s⟩ := h c cs; ⟨v, w', r, stepsIn_wide.2 s⟩
theorem op_in {o : Oper} {a : Act} {w : World} {K : Act → World → Prop} {Q : Exit → Act → World → Prop} (hc : calm o = true) (h : o.wp P a w K Q) : o.wpIn (rnd l) m P a w K Q := by
  refine ⟨fun _ _ => trivial, ?_⟩
  rw [Oper.semAt_eq _ _ _ (calm_no hc)]
  unfold Oper.wp at h
  generalize (execOp a.eval o).run P w = r at *
  have hd : (rnd l).depth.isSome = true → 1 ≤ m := fun h => by cases h
  cases r with
  | ok nx w' =>
    cases nx <;> simp only [Oper.upon, Oper.uponIn] at h ⊢ <;> first
      | exact h
      | exact h.elim
      | exact ⟨hd, rowsIn_rnd h⟩
      | exact ⟨hd, (CallsIn.inRound l (callsIn_wide.2 h)).mono fun e w'' he => by cases e <;> exact he⟩
  | halt x w' => cases x <;> simp only [Oper.upon, Oper.uponIn] at h ⊢ <;> first | exact h | exact h.elim
variable {ops : Array Oper} {K0 : Act → World → Prop}
theorem wpOp_in (hc : ∀ (i : Nat) (o : Oper), ops[i]? = some o → calm o = true) {i : Nat} {K : Act → World → Prop} {a : Act} {w : World} (h : wpOp P ops (NQ K0) i K a w) : wpOpIn (rnd l) m P ops (NQ K0) i K a w := by
  unfold Go.wpOp at h
  unfold Go.wpOpIn
  cases ho : ops[i]? with
  | none => simp only [ho] at h ⊢; exact h
  | some o =>
    simp only [ho] at h ⊢
    split
    · rename_i hw
      rw [if_pos hw] at h
      rcases h with h | ⟨_, h⟩
      · exact op_in (hc i o ho) h
      · exact absurd h nq_out
    · rename_i hw
      rw [if_neg hw] at h
      exact ⟨fun _ _ => trivial, h⟩
theorem wpAny_in (hc : ∀ (i : Nat) (o : Oper), ops[i]? = some o → calm o = true) {md : Region.Mode} : ∀ (fuel : Nat) (listed : Array Bool) (a : Act) (w : World), wpAny P md ops (NQ K0) fuel listed a w → wpAnyIn (rnd l) m P md ops (NQ K0) fuel listed a w
  | 0, _, _, _, h => h
  | fuel + 1, listed, a, w, h => ⟨h.1, fun i hi => wpOpIn_mono (fun a w => wpAny_in hc fuel _ a w) (wpOp_in hc (h.2 i hi))⟩
theorem calm_all {L : List Oper} (h : L.all calm = true) : ∀ (i : Nat) (o : Oper), L.toArray[i]? = some o → calm o = true := by
  intro i o ho
  rw [List.getElem?_toArray] at ho
  exact List.all_eq_true.1 h o (List.mem_of_getElem? ho)
end
/-! ### code in a round -/
def WPR (P : Program) (n : Nat) (c : Code) (Q : Exit → Env → World → Prop) (e : Env) (w : World) : Prop :=
  ∀ (l m : Nat) (a : Act), Rel n e a → c.wpIn (rnd l) m P (fun x a' w' => ∃ e', Rel n e' a' ∧ Q x e' w') a w
section
variable {P : Program} {n : Nat} {Q : Exit → Env → World → Prop} {e : Env} {w : World}
theorem WPR.block {i : Nat} {c : Code} (h : WPR P n c (thn (Q .normal) (fun _ _ _ => False)) e w) : WPR P n (.block i c) Q e w := by
  intro l m a ha
  refine wpIn_block (wpIn_mono (h l m a ha) ?_)
  rintro x a' w' ⟨e', hr, q⟩
  cases x with
  | normal => exact ⟨e', hr, q⟩
  | _ => exact q.elim
theorem WPR.any [hm : Mixed P] {i : Nat} {L : List Oper} (hc : L.all calm = true) (h : ∀ w', Ext w w' → AL P n L.toArray L.length [] (Q .normal) e w') : WPR P n (.region i L.toArray true) Q e w := by
  intro l m a ha
  have h0 := h { w with drawn := w.drawn + 1 } (Ext.drew w)
  unfold AL at h0
  have h1 := h0 (closed_start _ _) a ha
  have h2 := wpAny_in (l := l) (m := m) (calm_all hc) _ _ _ _ h1
  refine wpIn_mono (Q := NQ fun a' w' => ∃ e', Rel n e' a' ∧ Q .normal e' w') (wpIn_region_any hm.h (by simpa [lst] using h2)) ?_
  rintro x a' w' ⟨rfl, e', hr, hk⟩
  exact ⟨e', hr, hk⟩
/-! ### a function that holds a range over a function -/
def WPX (P : Program) (n : Nat) (c : Code) (Q : Exit → Act → World → Prop) (e : Env) (w : World) : Prop := ∀ a, Rel n e a → c.wp P Q a w
theorem WPX.seq {QX : Exit → Act → World → Prop} {x y : Code} (h : WP P n x (thn (fun e' w' => WPX P n y QX e' w') (fun _ _ _ => False)) e w) : WPX P n (.seq x y) QX e w := by
  intro a ha
  unfold WP at h
  refine wp_seq (wp_mono (h a ha) ?_)
  rintro x a' w' ⟨e', hr, q⟩
  cases x <;> first | exact q a' hr | exact q.elim
theorem WPX.regionS {QX : Exit → Act → World → Prop} {i : Nat} {L : List Oper} {y : Code} (h : RL P n L.toArray L (fun e' w' => WPX P n y QX e' w') e w) : WPX P n (.seq (.region i L.toArray false) y) QX e w :=
  WPX.seq (WP.region h)
def finX (P : Program) (r : Nat) (R : Value → World → Prop) : Exit → Act → World → Prop := fun x a W =>
  x = .ret ∧ ∃ D, a.defers = [{ target := .collected D, args := #[] }] ∧ W.heap[D]? = some (.deferred (some [])) ∧ R (a.tmps.getD r undef) (W.putObj D (.deferred none))
theorem Ct.introX {f : FuncId} {fn : Func} {c : Code} {vs : List Value} {R : Value → World → Prop} {r : Nat} (hf : P.funcs[f]? = some fn) (hn : fn.ntmps = n) (hb : fn.body = some c) (hr : fn.results = #[.tmp r]) (hnm : (fn.name == "runtime.NumGoroutine") = false) (hle : Nat.ble vs.length n = true)
    (h : WPX P n c (finX P r R) (look [] (argE vs)) w) : Ct P f vs.toArray w R := by
  refine ⟨entry_of hf hb hnm, (callsIn_wide (n := 0)).1 (callsIn_of_wp_marks hf hb trivial ?_ rfl)⟩
  have hr2 := rel_enter vs n (Nat.le_of_ble_eq_true hle)
  rw [← hn] at hr2 h
  refine wpIn_wide.2 (wp_mono (h _ hr2) ?_)
  rintro x a W ⟨rfl, D, hd, hD, hR⟩
  show LeavesInM _ _ P fn a.tmps _ a.defers .returning W
  rw [hd]
  refine ⟨by simp, .inl ⟨_, _, rfl, run_takeDeferred hD, ?_⟩⟩
  exact ⟨_, results_tmp hr a.tmps P _, _, rfl, hR⟩
/-- what is not cells, and lies at B or beyond -/
def odd_ (B : Nat) (W : World) (k : Nat) : Prop := B ≤ k ∧ ∃ o : Obj, W.heap[k]? = some o ∧ o.isCells = false
theorem upd_odd {B : Nat} {W W' : World} {row : Option Nat} (hg : W.grownBy W' row) (hr : ∀ r, row = some r → B ≤ r ∧ ∃ o : Obj, W.heap[r]? = some o ∧ o.isCells = false) : Upd (odd_ B W) W W' :=
  ⟨hg.os, hg.tape, hg.output, by show dle _ _; unfold dle; trivial, hg.size, fun k hk hx => hg.block k hk (fun e => hx (hr k e.symm))⟩
/-- a round has turned cells at n0 or beyond alone -/
def Turned (n0 : Nat) (W W' : World) : Prop := ∃ X : Nat → Prop, Upd X W W' ∧ ∀ k, X k → n0 ≤ k ∧ ∃ o : Obj, W.heap[k]? = some o ∧ o.isCells = true
theorem Turned.keeps {n0 : Nat} {W W' : World} (h : Turned n0 W W') : KeepsOthers W W' := by
  obtain ⟨X, hu, hX⟩ := h
  refine ⟨hu.size, fun k o hk ho => hu.heap hk fun hx => ?_⟩
  obtain ⟨_, o2, h2, h3⟩ := hX k hx
  rw [hk] at h2
  cases h2
  rw [ho] at h3
  cases h3
theorem Turned.below {n0 : Nat} {W W' : World} (h : Turned n0 W W') (hn : n0 ≤ W.heap.size) : Below n0 W W' := by
  obtain ⟨X, hu, hX⟩ := h
  exact ⟨hu.os, hu.tape, hu.output, hu.size, fun k hk => hu.block k (Nat.lt_of_lt_of_le hk hn) (fun hx => by have := (hX k hx).1; omega)⟩
variable {QX : Exit → Act → World → Prop} {el : List (Nat × Value)} {b : Env}
theorem WPX.seqX {x y : Code} (h : WPX P n x (Exit.then (y.wp P QX) QX) e w) : WPX P n (.seq x y) QX e w := fun a ha => wp_seq (h a ha)
theorem wpl_val {ops : Array Oper} {QX : Exit → Act → World → Prop} {o : Oper} {L : List Oper} {a : Act} {v : Value} {w' : World} (he : a.eval = ev e) (hw : Region.wanted o (yielded ops a.tmps) = true) (hrun : (execOp (ev e) o).run P w = .ok (.value v) w') (k : wpList P ops QX L (a.put o.dst v) w') : wpList P ops QX (o :: L) a w := by
  unfold wpList
  rw [if_pos hw]
  left
  unfold Oper.wp
  rw [he, hrun]
  exact k
/-- behind the loop: what lies in a box is handed back -/
theorem tail_ret {R : Value → World → Prop} {id d1 d2 D : Nat} {t ty ty2 : TypeId} {x : Operand} {pos pos2 : String} {after after2 : Array Edge} {v : Value} {a : Act} (hr : Rel n e { a with defers := [] }) (hd : a.defers = [{ target := .collected D, args := #[] }]) (hD : w.heap[D]? = some (.deferred (some [])))
    (hl : Does P e w (.load t x) v) (h1 : Nat.blt d1 n = true) (h2 : Nat.blt d2 n = true) (hR : R v (w.putObj D (.deferred none))) :
    (Code.seq (.region id #[⟨some d1, .load t x, ty, pos, after, none⟩, ⟨some d2, .assign (.tmp d1), ty2, pos2, after2, none⟩] false) .ret).wp P (finX P d2 R) a w := by
  have r1 : Rel n (put e (some d1) v) { a.put (some d1) v with defers := [] } := hr.put (d := some d1) h1 v
  have r2 : Rel n (put (put e (some d1) v) (some d2) v) { (a.put (some d1) v).put (some d2) v with defers := [] } := r1.put (d := some d2) h2 v
  refine wp_seq (wp_region_lit (wpl_val (e := e) (v := v) (w' := w) hr.eval (wanted_none rfl _) (hl w (Ext.refl w) _ _ _ _ _) ?_))
  refine wpl_val (e := put e (some d1) v) (v := v) (w' := w) r1.eval (wanted_none rfl _) ?_ ?_
  · simp only [execOp]
    show Result.ok (Next.value (put e (some d1) v d1)) w = _
    have : put e (some d1) v d1 = v := by show look [(d1, v)] e d1 = v; rw [look_cons, if_pos rfl]
    rw [this]
  · refine wp_ret ⟨rfl, D, hd, hD, ?_⟩
    have : ((a.put (some d1) v).put (some d2) v).tmps.getD d2 undef = v := by
      have h := r2.env d2
      rw [show put (put e (some d1) v) (some d2) v d2 = v from by show look [(d2, v)] _ d2 = v; rw [look_cons, if_pos rfl]] at h
      exact h
    show R (((a.put (some d1) v).put (some d2) v).tmps.getD d2 undef) _
    rw [this]
    exact hR
/-- the loop -/
theorem WPX.vals {gf Bs n0 : Nat} {g : Operand} {pt pv id rid : Nat} {ty : TypeId} {pos : String} {after : Array Edge} {body : Code} {zs : List ByteArray}
    (hg : ev (look el b) g = .func (.func gf) #[] #[.pointer (some ⟨Bs, 0, none⟩)]) (eg : ∀ args w, (callFunc gf args).run P w = .ok (.enter gf args) w)
    (hseq : SeqStopsK Fence.wide 1 P gf #[.pointer (some ⟨Bs, 0, none⟩)] (fun x : ByteArray => #[Value.string x]) (Below n0) (fun ys => ys = zs) (fun pre => pre <+: zs) zs.length w)
    (hn0 : n0 ≤ w.heap.size) (hpt : Nat.blt pt n = true) (hpv : Nat.blt pv n = true)
    (I : List ByteArray → World → Prop) (hI : ∀ pre W W', I pre W → Upd (odd_ w.heap.size W) W W' → I pre W') (h0 : I [] w) (hsz : ∀ pre W, I pre W → n0 ≤ W.heap.size)
    (hbody : ∀ pre x W, I pre W → pre.length < zs.length → WPR P n body (thn (fun _ W' => Turned n0 W W' ∧ I (pre ++ [x]) W') (fun _ _ _ => False)) (look ((pv, .string x) :: (pt, .string x) :: el) b) W)
    (hrest : ∀ D W, w.heap.size ≤ D → I zs W → W.heap[D]? = some (.deferred (some [])) → ∀ a', Rel n (look el b) { a' with defers := [] } → a'.defers = [{ target := .collected D, args := #[] }] → QX .normal a' W) :
    WPX P n (.block id (.rangeFunc g #[pt] (.region rid #[⟨some pv, .assign (.tmp pt), ty, pos, after, none⟩] false) body)) QX (look el b) w := by
  intro a ha
  refine wp_block ((wpIn_wide (n := 2)).1 ?_)
  refine wpIn_rangeFunc_ownF (gf := gf) (lb := #[.pointer (some ⟨Bs, 0, none⟩)]) rfl (by decide) (by rw [ha.eval]; exact hg) trivial eg hseq (fun h k => belowK_t h k) (belowK_b hn0) (Below.refl _ _) (fun _ => rfl)
    I (fun _ _ _ => False) (fun s A B row hs hg hr => hI s A B hs (upd_odd hg hr)) (fun _ _ _ _ _ hs _ _ => hs) h0
    (fun x => (({ tmps := a.tmps.setIfInBounds pt (.string x), defers := [] } : Act).put (some pv) (.string x))) ?assign ?body ?done ?stop
  case assign =>
    intro l x W K hK
    have hlt : pt < a.tmps.size := by rw [ha.size]; exact Nat.le_of_ble_eq_true hpt
    have hz : (#[pt].zip #[Value.string x]).foldl (fun t (p, v) => t.setIfInBounds p v) a.tmps = a.tmps.setIfInBounds pt (.string x) := by simp
    rw [hz]
    refine wpIn_region ?_
    show wpOpsIn _ _ P #[_] _ [0] _ W
    unfold wpOpsIn
    show (if Region.wanted _ _ = true then _ else _)
    rw [if_pos (wanted_none rfl _)]
    refine ⟨fun _ _ => trivial, ?_⟩
    rw [Oper.semAt_eq _ _ _ (fun c h => by cases h)]
    have hv : (a.tmps.setIfInBounds pt (.string x)).getD pt undef = .string x := by
      simp [Array.getD_eq_getD_getElem?, hlt]
    have hrun : (execOp ({ tmps := a.tmps.setIfInBounds pt (.string x), defers := [] } : Act).eval ⟨some pv, .assign (.tmp pt), ty, pos, after, none⟩).run P W = .ok (.value (.string x)) W := by
      simp only [execOp]
      show Result.ok (Next.value ((a.tmps.setIfInBounds pt (.string x)).getD pt undef)) W = _
      rw [hv]
    show Oper.uponIn _ _ P _ ({ tmps := a.tmps.setIfInBounds pt (.string x), defers := [] } : Act) _ _ ((execOp ({ tmps := a.tmps.setIfInBounds pt (.string x), defers := [] } : Act).eval ⟨some pv, .assign (.tmp pt), ty, pos, after, none⟩).run P W)
    rw [hrun]
    exact hK
  case body =>
    intro l pre x W hi hl
    have hr0 : Rel n (look ((pv, .string x) :: (pt, .string x) :: el) b) (({ tmps := a.tmps.setIfInBounds pt (.string x), defers := [] } : Act).put (some pv) (.string x)) := by
      have h1 : Rel n (put (look el b) (some pt) (.string x)) (a.put (some pt) (.string x)) := ha.put (d := some pt) hpt _
      have h2 : Rel n (look ((pt, .string x) :: el) b) ({ tmps := a.tmps.setIfInBounds pt (.string x), defers := [] } : Act) := ⟨h1.size, rfl, h1.env⟩
      exact h2.put (d := some pv) hpv _
    refine wpIn_mono (hbody pre x W hi hl l _ _ hr0) ?_
    rintro y a' W' ⟨e', hr, q⟩
    cases y with
    | normal => exact ⟨q.1.keeps, q.1.below (hsz pre W hi), q.2⟩
    | _ => exact q.elim
  case done =>
    rintro D ys W hD rfl hi hK
    exact hrest D W hD hi hK _ ⟨ha.size, rfl, ha.env⟩ (by rw [ha.defers])
  case stop =>
    rintro D c pre W _ _ h _
    exact h.elim
end
end Go.Eng
