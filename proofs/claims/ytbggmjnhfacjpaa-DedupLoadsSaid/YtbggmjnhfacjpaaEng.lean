/-
  A calculus of steps over the model's weakest preconditions, for any program: environments as overlays, code, regions, operations.
-/
import Derived.WalkKit
import Derived.Deep.Quiet
import Derived.Below
import Derived.KernelRfl
set_option linter.unusedVariables false
namespace Go.Eng
open Go Go.RowKit

/-! ### environments -/
abbrev Env := Nat → Value
def look : List (Nat × Value) → Env → Env
  | [], b => b
  | p :: l, b => fun t => cond (Nat.beq t p.1) p.2 (look l b t)
def memN : List Nat → Nat → Bool
  | [], _ => false
  | d :: D, t => cond (Nat.beq t d) true (memN D t)
def mix (D : List Nat) (j b : Env) : Env := fun t => cond (memN D t) (j t) (b t)
def ev (e : Env) : Operand → Value
  | .tmp t => e t
  | .const v => v
  | .global g => .pointer (some ⟨g, 0, none⟩)
  | .func f => .func (.func f) #[] #[]

theorem look_nil (b : Env) : look [] b = b := rfl
theorem look_cons (d : Nat) (v : Value) (l : List (Nat × Value)) (b : Env) (t : Nat) : look ((d, v) :: l) b t = if t = d then v else look l b t := by
  show cond (Nat.beq t d) v (look l b t) = _
  by_cases h : t = d
  · subst h; simp
  · have : Nat.beq t d = false := by
      cases hb : Nat.beq t d
      · rfl
      · exact absurd (Nat.eq_of_beq_eq_true hb) h
    simp [this, h]

/-- What is outside D is as b has it. -/
def AgreeOff (D : List Nat) (e b : Env) : Prop := ∀ t, memN D t = false → e t = b t
theorem AgreeOff.refl (D : List Nat) (e : Env) : AgreeOff D e e := fun _ _ => rfl
theorem AgreeOff.mix (D : List Nat) (j b : Env) : AgreeOff D (mix D j b) b := fun t h => by simp [Eng.mix, h]
def keysIn (D : List Nat) : List (Nat × Value) → Bool
  | [] => true
  | p :: l => cond (memN D p.1) (keysIn D l) false
theorem AgreeOff.look {D : List Nat} {l : List (Nat × Value)} {e b : Env} (hk : keysIn D l = true) (h : AgreeOff D e b) : AgreeOff D (look l e) b := by
  induction l with
  | nil => exact h
  | cons p l ih =>
    obtain ⟨d, v⟩ := p
    have hk' : cond (memN D d) (keysIn D l) false = true := hk
    cases hd : memN D d with
    | false => simp [hd] at hk'
    | true =>
      simp [hd] at hk'
      intro t ht
      rw [look_cons]
      have : t ≠ d := fun e => by subst e; simp [hd] at ht
      simp only [this, if_false]
      exact ih hk' t ht
theorem AgreeOff.mix' {D : List Nat} {j e b : Env} (h : AgreeOff D e b) : AgreeOff D (Eng.mix D j e) b := fun t ht => by simp [Eng.mix, ht]; exact h t ht

def subN (D : List Nat) : List Nat → Bool
  | [] => true
  | d :: l => cond (memN D d) (subN D l) false
theorem memN_sub {D : List Nat} {t : Nat} (ht : memN D t = false) : ∀ {l : List Nat}, subN D l = true → memN l t = false
  | [], _ => rfl
  | d :: l, h => by
    have h' : cond (memN D d) (subN D l) false = true := h
    cases hd : memN D d with
    | false => simp [hd] at h'
    | true =>
      simp [hd] at h'
      show cond (Nat.beq t d) true (memN l t) = false
      cases hb : Nat.beq t d with
      | true => rw [Nat.eq_of_beq_eq_true hb, hd] at ht; cases ht
      | false => exact memN_sub ht h'
theorem AgreeOff.mixs {D D' : List Nat} {j e b : Env} (hs : subN D D' = true) (h : AgreeOff D e b) : AgreeOff D (Eng.mix D' j e) b := fun t ht => by
  simp [Eng.mix, memN_sub ht hs]; exact h t ht

/-- What a loop's head knows: D's slots are open but for those that l tells. -/
theorem open_env {D : List Nat} {e b : Env} (h : AgreeOff D e b) : e = mix D e b := by
  funext t
  unfold mix
  cases ht : memN D t
  · simpa using h t ht
  · rfl
theorem over_env {e : Env} (l : List (Nat × Value)) (h : ∀ p ∈ l, e p.1 = p.2) : look l e = e := by
  induction l with
  | nil => rfl
  | cons p l ih =>
    obtain ⟨d, v⟩ := p
    funext t
    rw [look_cons, ih fun q hq => h q (List.mem_cons_of_mem _ hq)]
    split
    · rename_i ht; subst ht; exact (h (t, v) (List.mem_cons_self ..)).symm
    · rfl
/-- the slots of l hold what l tells -/
def Slots (e : Env) : List (Nat × Value) → Prop
  | [] => True
  | p :: l => e p.1 = p.2 ∧ Slots e l
theorem Slots.all {e : Env} : ∀ {l : List (Nat × Value)}, Slots e l → ∀ p ∈ l, e p.1 = p.2
  | [], _, p, hp => by cases hp
  | q :: l, h, p, hp => by
    rcases List.mem_cons.1 hp with rfl | hp
    · exact h.1
    · exact Slots.all h.2 p hp
/-- e is b but for D, and the slots of l hold what l tells -/
def Head (D : List Nat) (b : Env) (l : List (Nat × Value)) (e : Env) : Prop := ∃ j, e = look l (mix D j b)
theorem Head.intro {D : List Nat} {b e : Env} {l : List (Nat × Value)} (ha : AgreeOff D e b) (h : Slots e l) : Head D b l e :=
  ⟨e, by rw [← open_env ha, over_env l h.all]⟩

/-! ### acts -/
structure Rel (n : Nat) (e : Env) (a : Act) : Prop where
  size : a.tmps.size = n
  defers : a.defers = []
  env : ∀ t, a.tmps.getD t undef = e t

theorem Rel.eval {n : Nat} {e : Env} {a : Act} (h : Rel n e a) : a.eval = ev e := by
  funext x
  cases x <;> simp only [Act.eval, ev]
  exact h.env _

def put (e : Env) : Option Tmp → Value → Env
  | some d, v => look [(d, v)] e
  | none, _ => e

theorem put_look (l : List (Nat × Value)) (b : Env) (d : Nat) (v : Value) : put (look l b) (some d) v = look ((d, v) :: l) b := rfl

def dstOk (n : Nat) : Option Tmp → Bool
  | some d => Nat.blt d n
  | none => true

theorem Rel.put {n : Nat} {e : Env} {a : Act} (h : Rel n e a) {d : Option Tmp} (hd : dstOk n d = true) (v : Value) : Rel n (put e d v) (a.put d v) := by
  cases d with
  | none => exact h
  | some d =>
    have hlt : d < n := by
      have : Nat.ble (d + 1) n = true := hd
      exact Nat.le_of_ble_eq_true this
    refine ⟨by simp [Act.put, h.size], h.defers, fun t => ?_⟩
    have he := h.env t
    show (a.tmps.setIfInBounds d v).getD t undef = Eng.look [(d, v)] e t
    rw [look_cons, look_nil]
    simp only [Array.getD_eq_getD_getElem?, Array.getElem?_setIfInBounds] at he ⊢
    by_cases ht : t = d
    · subst ht; simp [h.size, hlt]
    · have : d ≠ t := fun e => ht e.symm
      simp [this, ht, he]

/-! ### code -/
def WP (P : Program) (n : Nat) (c : Code) (Q : Exit → Env → World → Prop) (e : Env) (w : World) : Prop :=
  ∀ a, Rel n e a → c.wp P (fun x a' w' => ∃ e', Rel n e' a' ∧ Q x e' w') a w

def thn (K : Env → World → Prop) (Q : Exit → Env → World → Prop) : Exit → Env → World → Prop
  | .normal => K
  | .exit i => Q (.exit i)
  | .goto l => Q (.goto l)
  | .ret => Q .ret
  | .panic c => Q (.panic c)
  | .outgrown => Q .outgrown
def blk (id : Nat) (Q : Exit → Env → World → Prop) : Exit → Env → World → Prop
  | .normal => Q .normal
  | .exit i => cond (Nat.beq i id) (Q .normal) (Q (.exit i))
  | .goto l => Q (.goto l)
  | .ret => Q .ret
  | .panic c => Q (.panic c)
  | .outgrown => Q .outgrown

section
variable {P : Program} {n : Nat} {Q Q' : Exit → Env → World → Prop} {e : Env} {w : World} {K K' : Env → World → Prop}

theorem WP.mono {c : Code} (h : WP P n c Q e w) (hq : ∀ x e w, Q x e w → Q' x e w) : WP P n c Q' e w :=
  fun a ha => wp_mono (h a ha) fun x a w ⟨e', hr, q⟩ => ⟨e', hr, hq _ _ _ q⟩

theorem WP.skip (h : Q .normal e w) : WP P n .skip Q e w := fun a ha => wp_skip ⟨e, ha, h⟩
theorem WP.label {l : Nat} (h : Q .normal e w) : WP P n (.label l) Q e w := fun a ha => wp_label ⟨e, ha, h⟩
theorem WP.exit {i : Nat} (h : Q (.exit i) e w) : WP P n (.exit i) Q e w := fun a ha => wp_exit ⟨e, ha, h⟩
theorem WP.ret (h : Q .ret e w) : WP P n .ret Q e w := fun a ha => wp_ret ⟨e, ha, h⟩

theorem WP.seq {x y : Code} (h : WP P n x (thn (WP P n y Q) Q) e w) : WP P n (.seq x y) Q e w := by
  intro a ha
  refine wp_seq (wp_mono (h a ha) ?_)
  rintro x a' w' ⟨e', hr, q⟩
  cases x <;> first | exact q a' hr | exact ⟨e', hr, q⟩

theorem WP.block {i : Nat} {c : Code} (h : WP P n c (blk i Q) e w) : WP P n (.block i c) Q e w := by
  intro a ha
  refine wp_block (wp_mono (h a ha) ?_)
  rintro x a' w' ⟨e', hr, q⟩
  cases x with
  | exit j =>
    show if j = i then _ else _
    have q' : cond (Nat.beq j i) (Q .normal) (Q (.exit j)) e' w' := q
    by_cases hji : j = i
    · subst hji; simp at q' ⊢; exact ⟨e', hr, q'⟩
    · have hb : Nat.beq j i = false := by
        cases hb : Nat.beq j i
        · rfl
        · exact absurd (Nat.eq_of_beq_eq_true hb) hji
      rw [if_neg hji]; rw [hb] at q'; exact ⟨e', hr, q'⟩
  | _ => exact ⟨e', hr, q⟩

theorem WP.cond {c : Operand} {x y : Code} {p : Prop} {dp : Decidable p} (hc : ev e c = .bool (@decide p dp)) (ht : p → WP P n x Q e w) (hf : ¬ p → WP P n y Q e w) : WP P n (.cond c x y) Q e w := by
  intro a ha
  refine wp_cond_split (t := @decide p dp) (by rw [ha.eval]; exact hc) (fun h => ht (of_decide_eq_true h) a ha) (fun h => hf (of_decide_eq_false h) a ha)
theorem WP.condB {c : Operand} {x y : Code} {b : Bool} (hc : ev e c = .bool b) (ht : b = true → WP P n x Q e w) (hf : b = false → WP P n y Q e w) : WP P n (.cond c x y) Q e w := by
  intro a ha
  exact wp_cond_split (t := b) (by rw [ha.eval]; exact hc) (fun h => ht h a ha) (fun h => hf h a ha)
theorem WP.condT {c : Operand} {x y : Code} {b : Bool} (hc : ev e c = .bool b) (hb : b = true) (ht : WP P n x Q e w) : WP P n (.cond c x y) Q e w := by
  intro a ha
  exact wp_cond_true (by rw [ha.eval, hc, hb]) (ht a ha)
theorem WP.condF {c : Operand} {x y : Code} {b : Bool} (hc : ev e c = .bool b) (hb : b = false) (hf : WP P n y Q e w) : WP P n (.cond c x y) Q e w := by
  intro a ha
  exact wp_cond_false (by rw [ha.eval, hc, hb]) (hf a ha)

/-- a loop, whose rounds are told by a number that falls -/
theorem WP.loop {c : Code} (I : Nat → Env → World → Prop) (m : Nat) (h0 : I m e w)
    (hr : ∀ m e w, I m e w → WP P n c (thn (fun e' w' => ∃ m', m' < m ∧ I m' e' w') Q) e w) : WP P n (.loop c) Q e w := by
  intro a ha b k cs
  have key : ∀ m a e w, Rel n e a → I m e w →
      ∃ x a' w', (∃ e', Rel n e' a' ∧ Q x e' w') ∧ Arrives P (lone (b.at a (.code c :: .inLoop c :: k)) cs w) b k cs x a' w' := by
    intro m
    induction m using Nat.strongRecOn with
    | _ m ih =>
      intro a e w ha hI
      obtain ⟨x, a₁, w₁, ⟨e₁, hr₁, hq⟩, harr⟩ := hr m e w hI a ha b (.inLoop c :: k) cs
      cases x with
      | normal =>
        obtain ⟨m', hlt, hI'⟩ := hq
        obtain ⟨x₂, a₂, w₂, hq₂, harr₂⟩ := ih m' hlt a₁ e₁ w₁ hr₁ hI'
        exact ⟨x₂, a₂, w₂, hq₂, .of_steps (Steps.trans harr (.one step_inLoop)) harr₂⟩
      | exit id => exact ⟨_, a₁, w₁, ⟨e₁, hr₁, hq⟩, .pass (x := .inLoop c) rfl (fun _ _ => .inl (by simp)) harr⟩
      | goto l => exact ⟨_, a₁, w₁, ⟨e₁, hr₁, hq⟩, .pass (x := .inLoop c) rfl (fun _ _ => .inl (by simp)) harr⟩
      | ret => exact ⟨_, a₁, w₁, ⟨e₁, hr₁, hq⟩, .pass (x := .inLoop c) rfl (fun _ _ => .inl (by simp)) harr⟩
      | panic ch => exact ⟨_, a₁, w₁, ⟨e₁, hr₁, hq⟩, .pass (x := .inLoop c) rfl (fun _ _ => .inl (by simp)) harr⟩
      | outgrown => exact ⟨_, a₁, w₁, ⟨e₁, hr₁, hq⟩, .pass (x := .inLoop c) rfl (fun _ _ => .inl (by simp)) harr⟩
  obtain ⟨x, a', w', hq, harr⟩ := key m a e w ha h0
  exact ⟨x, a', w', hq, .of_steps (.one step_loop) harr⟩

/-- the ways meet again: what is known there -/
theorem WP.cut {α : Type} {c : Code} (D : List Nat) (l : α → List (Nat × Value)) (J : α → World → Prop) (h1 : WP P n c (thn (fun e' w' => ∃ x, Head D e (l x) e' ∧ J x w') Q) (look [] e) w)
    (h2 : ∀ x j w', J x w' → K (look (l x) (mix D j e)) w') : WP P n c (thn K Q) e w := by
  refine WP.mono (Q := thn (fun e' w' => ∃ x, Head D e (l x) e' ∧ J x w') Q) h1 ?_
  intro x e' w' hq
  cases x with
  | normal => obtain ⟨y, ⟨j, rfl⟩, hj⟩ := hq; exact h2 y j w' hj
  | _ => exact hq

/-! ### regions in the order of the text -/
def RL (P : Program) (n : Nat) (ops : Array Oper) (l : List Oper) (K : Env → World → Prop) (e : Env) (w : World) : Prop :=
  ∀ a, Rel n e a → wpList P ops (fun x a' w' => x = .normal ∧ ∃ e', Rel n e' a' ∧ K e' w') l a w

theorem wpList_mono {P : Program} {ops : Array Oper} {Q Q' : Exit → Act → World → Prop} (hq : ∀ x a w, Q x a w → Q' x a w) :
    ∀ (l : List Oper) (a : Act) (w : World), wpList P ops Q l a w → wpList P ops Q' l a w
  | [], a, w, h => hq _ _ _ h
  | o :: l, a, w, h => by
    unfold wpList at h ⊢
    split
    · rename_i hw
      rw [if_pos hw] at h
      rcases h with h | ⟨h, a0, w0, h0⟩
      · left
        unfold Oper.wp at h ⊢
        generalize (execOp a.eval o).run P w = r at *
        cases r with
        | ok nx w' =>
          cases nx <;> simp only [Oper.upon] at h ⊢ <;> first | exact wpList_mono hq l _ _ h | exact h.elim | skip
          · refine h.mono fun en w'' hh => ?_
            cases en with
            | returned v => exact wpList_mono hq l _ _ hh
            | panicked ch => exact hq _ _ _ hh
            | outgrown => obtain ⟨a0, w0, h0⟩ := hh; exact ⟨a0, w0, hq _ _ _ h0⟩
          · exact h.mono fun v w'' hh => wpList_mono hq l _ _ hh
        | halt x w' =>
          cases x <;> simp only [Oper.upon] at h ⊢
          exact hq _ _ _ h
      · exact .inr ⟨h, a0, w0, hq _ _ _ h0⟩
    · rename_i hw
      rw [if_neg hw] at h
      exact wpList_mono hq l _ _ h

theorem WP.region {i : Nat} {l : List Oper} (h : RL P n l.toArray l (Q .normal) e w) : WP P n (.region i l.toArray false) Q e w := by
  intro a ha
  refine wp_region_lit (wpList_mono ?_ _ _ _ (h a ha))
  rintro x a w ⟨rfl, e', hr, hk⟩
  exact ⟨e', hr, hk⟩
/-- a region, and what stands behind it -/
theorem WP.regionS {i : Nat} {l : List Oper} {y : Code} (h : RL P n l.toArray l (WP P n y Q) e w) : WP P n (.seq (.region i l.toArray false) y) Q e w :=
  WP.seq (WP.region h)

variable {ops : Array Oper} {l : List Oper} {o : Oper} {d : Nat} {op : Op} {ty : TypeId} {pos : String} {after : Array Edge} {el : List (Nat × Value)} {b : Env} {v : Value} {w' : World}

theorem RL.nil (h : K e w) : RL P n ops [] K e w := fun a ha => ⟨rfl, e, ha, h⟩

theorem RL.mono (h : RL P n ops l K e w) (hk : ∀ e w, K e w → K' e w) : RL P n ops l K' e w :=
  fun a ha => wpList_mono (fun x a w ⟨hx, e', hr, q⟩ => ⟨hx, e', hr, hk _ _ q⟩) l a w (h a ha)

theorem wanted_none (hg : o.guard = none) (y : Nat → Option Bool) : Region.wanted o y = true := by simp [Region.wanted, hg]

/-- an operation that yields a value -/
theorem RL.val' (hw : ∀ a, Rel n e a → Region.wanted o (yielded ops a.tmps) = true) (hd : dstOk n o.dst = true) (hrun : (execOp (ev e) o).run P w = .ok (.value v) w')
    (k : RL P n ops l K (put e o.dst v) w') : RL P n ops (o :: l) K e w := by
  intro a ha
  unfold wpList
  rw [if_pos (hw a ha)]
  left
  unfold Oper.wp
  rw [ha.eval, hrun]
  exact k _ (ha.put hd v)
theorem RL.skip' (hw : ∀ a, Rel n e a → Region.wanted o (yielded ops a.tmps) = true) (hd : dstOk n o.dst = true) (hrun : (execOp (ev e) o).run P w = .ok .skip w')
    (k : RL P n ops l K (put e o.dst undef) w') : RL P n ops (o :: l) K e w := by
  intro a ha
  unfold wpList
  rw [if_pos (hw a ha)]
  left
  unfold Oper.wp
  rw [ha.eval, hrun]
  exact k _ (ha.put hd _)
theorem RL.enter' {f : FuncId} {args : Array Value} {R : Value → World → Prop} (hw : ∀ a, Rel n e a → Region.wanted o (yielded ops a.tmps) = true) (hd : dstOk n o.dst = true)
    (hrun : (execOp (ev e) o).run P w = .ok (.enter f args) w') (hc : Calls P f args w' fun x w'' => ∃ v, x = .returned v ∧ R v w'')
    (k : ∀ v w'', R v w'' → RL P n ops l K (put e o.dst v) w'') : RL P n ops (o :: l) K e w := by
  intro a ha
  unfold wpList
  rw [if_pos (hw a ha)]
  left
  unfold Oper.wp
  rw [ha.eval, hrun]
  refine hc.mono ?_
  rintro x w'' ⟨v, rfl, hr⟩
  exact k v w'' hr _ (ha.put hd v)
/-- an operation whose guard says no -/
theorem RL.pass' (hw : ∀ a, Rel n e a → Region.wanted o (yielded ops a.tmps) = false) (hd : dstOk n o.dst = true)
    (k : RL P n ops l K (put e o.dst undef) w) : RL P n ops (o :: l) K e w := by
  intro a ha
  unfold wpList
  rw [if_neg (by rw [hw a ha]; simp)]
  exact k _ (ha.put hd _)

theorem getElem?_of_getD {a : Array Value} {d : Nat} {c : Bool} (h : a.getD d undef = .bool c) : a[d]? = some (.bool c) := by
  rw [Array.getD_eq_getD_getElem?] at h
  cases hq : a[d]? with
  | none => rw [hq] at h; cases h
  | some v => rw [hq] at h; exact congrArg some h

/-- a guard, decided -/
theorem wanted_guard {j : Nat} {want c : Bool} (hg : o.guard = some (j, want)) {dj : Nat} (hj : (ops[j]?).bind (·.dst) = some dj) (he : e dj = .bool c) (a : Act) (ha : Rel n e a) :
    Region.wanted o (yielded ops a.tmps) = (c == want) := by
  have h1 : a.tmps[dj]? = some (.bool c) := getElem?_of_getD ((ha.env dj).trans he)
  simp [Region.wanted, hg, yielded, hj, h1]
end
attribute [irreducible] WP RL
end Go.Eng
