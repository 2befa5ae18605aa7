/-
  Producers, batches, what is remembered of them: data, keys, their order.
-/
import Derived.Test.YtbggmjnhfacjpaaRep
import Derived.Test.YtbggmjnhfacjpaaTab
import Derived.Test.YtbggmjnhfacjpaaCal
import Derived.Test.YtbggmjnhfacjpaaPre
import Derived.Test.YtbggmjnhfacjpaaSlc
import Derived.Test.YtbggmjnhfacjpaaGrid
import Derived.Lib.SliceRun
set_option linter.unusedVariables false
namespace Go.Eng
open Go Go.RowKit

/-- a & K -/
def andv (K : Nat) (a : Int) : Nat := (BitVec.ofInt 64 a &&& BitVec.ofInt 64 (K : Int)).toNat
theorem andv_le (K : Nat) (hK : K ≤ 9223372036854775807) (a : Int) : andv K a ≤ K := by
  unfold andv
  rw [BitVec.toNat_and]
  refine Nat.le_trans Nat.and_le_right ?_
  rw [BitVec.toNat_ofInt]
  have : ((K : Int) % ((2 ^ 64 : Nat) : Int)) = (K : Int) := Int.emod_eq_of_lt (by omega) (by omega)
  rw [this]
  simp
theorem andk {P : Program} {e : Env} {x y : Operand} {t t' : TypeId} {K : Nat} {a : Int} (hx : ev e x = .int .i64 a) (hy : ev e y = .int .i64 (K : Int)) (hK : K ≤ 9223372036854775807) : Pure P e (.binOp .and t x y t') (.int .i64 ((andv K a : Nat) : Int)) := by
  intro w d ty pos after g
  have h := andv_le K hK a
  have h1 := IntWalk.i64_in ((andv K a : Nat) : Int) (by omega)
  simp only [execOp, hx, hy]
  simp [eqGuard, binOp, Op.intBits]
  exact h1
/-- the ways meet again, whatever stands behind -/
theorem WP.cutN {P : Program} {n : Nat} {Q : Exit → Env → World → Prop} {e : Env} {w : World} {α : Type} {c : Code} (D : List Nat) (l : α → List (Nat × Value)) (J : α → World → Prop) (h1 : WP P n c (thn (fun e' w' => ∃ x, Head D e (l x) e' ∧ J x w') Q) (look [] e) w)
    (h2 : ∀ x j w', J x w' → Q .normal (look (l x) (mix D j e)) w') : WP P n c Q e w := by
  refine WP.mono (Q := thn (fun e' w' => ∃ x, Head D e (l x) e' ∧ J x w') Q) h1 ?_
  intro x e' w' hq
  cases x with
  | normal => obtain ⟨y, ⟨j, rfl⟩, hj⟩ := hq; exact h2 y j w' hj
  | _ => exact hq
theorem AL.mvF {P : Program} {n : Nat} {ops : Array Oper} {fuel : Nat} {done : List Nat} {K : Env → World → Prop} {el : List (Nat × Value)} {b : Env} {w : World} {dt : Nat} {ty : TypeId} {pos : String} {after : Array Edge} (i : Nat) {x : Operand} {p : Prop} {dp : Decidable p} (hB : pureOk ops done i = true) (hi : ops[i]? = some ⟨some dt, .move x, ty, pos, after, none⟩) (hx : ev (Eng.look el b) x = .bool (@decide p dp)) (h : ¬ p) (hd : Nat.blt dt n = true)
    (k : AL P n ops fuel (i :: done) K (Eng.look ((dt, .bool false) :: el) b) w) : AL P n ops (fuel + 1) done K (Eng.look el b) w := by
  refine AL.p i hB hi (v := .bool false) ?_ hd k
  have := mv (P := P) (e := Eng.look el b) x
  rwa [hx, decide_eq_false h] at this
/-- a slice held against nil -/
theorem sleqn {P : Program} {e : Env} {x y : Operand} {t t' : TypeId} {a : Option Addr} {n c n' c' : Nat} {el : TypeId} [hu : Und P t (.slice el)] (hx : ev e x = .slice a n c) (hy : ev e y = .slice none n' c') : Pure P e (.binOp .eql t x y t') (.bool (decide (a = none))) := by
  intro w d ty pos after g
  have h := Go.Lib.run_eql_slice_nil w t el a n c n' c' hu.h
  simp only [execOp, hx, hy]
  simp [eqGuard, h]
  cases a <;> rfl
theorem pickTB {P : Program} {e : Env} {c x y : Operand} {v : Bool} (hc : ev e c = .bool true) (hx : ev e x = .bool v) : Pure P e (.pick c x y) (.bool v) := by
  have h := pickT (P := P) (b := y) (a := x) hc
  rwa [hx] at h
theorem pickFB {P : Program} {e : Env} {c x y : Operand} {v : Bool} (hc : ev e c = .bool false) (hy : ev e y = .bool v) : Pure P e (.pick c x y) (.bool v) := by
  have h := pickF (P := P) (a := x) (b := y) hc
  rwa [hy] at h
/-! ### the order of texts -/
theorem blt_trans : ∀ (a b c : List UInt8), Op.bytesLess a b = true → Op.bytesLess b c = true → Op.bytesLess a c = true
  | _, _, [], _, h => by cases ‹List UInt8› <;> simp [Op.bytesLess] at h
  | _, [], _ :: _, h, _ => by cases ‹List UInt8› <;> simp [Op.bytesLess] at h
  | [], _ :: _, _ :: _, _, _ => rfl
  | x :: a, y :: b, z :: c, h1, h2 => by
    simp only [Op.bytesLess, Bool.or_eq_true, Bool.and_eq_true, decide_eq_true_eq, beq_iff_eq] at h1 h2 ⊢
    rcases h1 with h1 | ⟨rfl, h1⟩
    · rcases h2 with h2 | ⟨rfl, h2⟩
      · left; exact UInt8.lt_trans h1 h2
      · left; exact h1
    · rcases h2 with h2 | ⟨rfl, h2⟩
      · left; exact h2
      · right; exact ⟨rfl, blt_trans a b c h1 h2⟩
theorem slt_trans {a b c : ByteArray} (h : slt a b) (k : slt b c) : slt a c := blt_trans _ _ _ h k
theorem slt_irrefl (a : ByteArray) : ¬ slt a a := by
  intro h
  have key : ∀ l : List UInt8, Op.bytesLess l l = false := by
    intro l
    induction l with
    | nil => rfl
    | cons x l ih => simp [Op.bytesLess, ih]
  unfold slt at h
  rw [key] at h
  cases h
theorem slt_tri {a b : ByteArray} (h : a ≠ b) : slt a b ∨ slt b a := by
  unfold slt
  rw [bytesLess_total a.toList b.toList]
  cases h1 : Op.bytesLess b.toList a.toList
  · left
    have h2 : (b.toList == a.toList) = false := by rw [toList_beq]; simp; exact Ne.symm h
    rw [h2]; rfl
  · exact .inr rfl
theorem slt_asymm {a b : ByteArray} (h : slt a b) : ¬ slt b a := fun k => slt_irrefl _ (slt_trans h k)
/-! ### comparisons as numbers -/
def cmpS (a b : ByteArray) : Int := if slt a b then -1 else if slt b a then 1 else 0
def cmpI (a b : Int) : Int := if a < b then -1 else if b < a then 1 else 0
def orI : List Int → Int
  | [] => 0
  | x :: l => if x ≠ 0 then x else orI l
theorem cmpS_cases (a b : ByteArray) : (slt a b ∧ cmpS a b = -1) ∨ (slt b a ∧ cmpS a b = 1) ∨ (a = b ∧ cmpS a b = 0) := by
  unfold cmpS
  by_cases h : a = b
  · subst h; simp [slt_irrefl]
  · rcases slt_tri h with h1 | h1
    · simp [h1]
    · simp [h1, slt_asymm h1]
theorem cmpI_cases (a b : Int) : (a < b ∧ cmpI a b = -1) ∨ (b < a ∧ cmpI a b = 1) ∨ (a = b ∧ cmpI a b = 0) := by
  unfold cmpI
  by_cases h : a < b
  · simp [h]
  · by_cases h2 : b < a
    · simp [h, h2]
    · have : a = b := by omega
      subst this
      simp
theorem orI_skip {l : List Int} {j : Nat} (hj : j < l.length) (h : ¬ l[j] ≠ 0) : orI (l.drop j) = orI (l.drop (j + 1)) := by
  rw [List.drop_eq_getElem_cons hj]
  conv => lhs; unfold orI
  rw [if_neg h]
theorem intE {x y : Int} (h : x = y) : Value.int .i64 x = Value.int .i64 y := by rw [h]
/-! ### the data -/
/-- a batch that is remembered -/
structure Did where
  seq : Int
  n : Int
  off : Int
deriving DecidableEq
instance : Lies Did := ⟨3, fun d => [.int .i64 d.seq, .int .i64 d.n, .int .i64 d.off], fun _ => rfl⟩
instance : One Did := ⟨fun y v hv => by simp only [Lies.enc, List.mem_cons, List.not_mem_nil, or_false] at hv; rcases hv with rfl | rfl | rfl <;> rfl⟩
structure Rec where
  hk : Bool
  key : ByteArray
  tomb : Bool
  val : ByteArray
instance : Lies Rec := ⟨4, fun r => [.bool r.hk, .string r.key, .bool r.tomb, .string r.val], fun _ => rfl⟩
instance : One Rec := ⟨fun y v hv => by simp only [Lies.enc, List.mem_cons, List.not_mem_nil, or_false] at hv; rcases hv with rfl | rfl | rfl | rfl <;> rfl⟩
/-- a batch, and where its records lie -/
structure Bat where
  prod : Int
  epoch : Int
  seq : Int
  ra : Option Addr
  rc : Nat
  recs : List Rec
instance : Lies Bat := ⟨4, fun b => [.int .i64 b.prod, .int .i64 b.epoch, .int .i64 b.seq, .slice b.ra b.recs.length b.rc], fun _ => rfl⟩
instance : One Bat := ⟨fun y v hv => by simp only [Lies.enc, List.mem_cons, List.not_mem_nil, or_false] at hv; rcases hv with rfl | rfl | rfl | rfl <;> rfl⟩
/-- a call of a script -/
structure DOp where
  kind : Int
  id : Int
  off : Int
  part : Part
  b : Bat
instance : Lies DOp := ⟨9, fun o => [.int .i64 o.kind, .int .i64 o.id, .int .i64 o.off, .string o.part.topic, .int .i64 o.part.n, .int .i64 o.b.prod, .int .i64 o.b.epoch, .int .i64 o.b.seq, .slice o.b.ra o.b.recs.length o.b.rc], fun _ => rfl⟩
/-- a producer and a partition -/
structure DKey where
  id : Int
  part : Part
deriving DecidableEq
instance : Lies DKey := ⟨3, fun k => [.int .i64 k.id, .string k.part.topic, .int .i64 k.part.n], fun _ => rfl⟩
instance : One DKey := ⟨fun y v hv => by simp only [Lies.enc, List.mem_cons, List.not_mem_nil, or_false] at hv; rcases hv with rfl | rfl | rfl <;> rfl⟩
/-- what is remembered of a producer and a partition, and where it lies -/
structure Maker where
  id : Int
  epoch : Int
  part : Part
  la : Option Addr
  lc : Nat
  last : List Did
instance : Lies Maker := ⟨5, fun m => [.int .i64 m.id, .int .i64 m.epoch, .string m.part.topic, .int .i64 m.part.n, .slice m.la m.last.length m.lc], fun _ => rfl⟩
instance : One Maker := ⟨fun y v hv => by simp only [Lies.enc, List.mem_cons, List.not_mem_nil, or_false] at hv; rcases hv with rfl | rfl | rfl | rfl | rfl <;> rfl⟩
instance : Inhabited Maker := ⟨⟨0, 0, ⟨ByteArray.empty, 0⟩, none, 0, []⟩⟩
/-- what is remembered, but for where it lies -/
structure Mk where
  id : Int
  epoch : Int
  part : Part
  last : List Did
deriving DecidableEq
/-- and but for its epoch -/
structure Pl where
  id : Int
  part : Part
  last : List Did
deriving DecidableEq
def Maker.mk' (m : Maker) : Mk := ⟨m.id, m.epoch, m.part, m.last⟩
def Maker.pl (m : Maker) : Pl := ⟨m.id, m.part, m.last⟩
def Mk.pl (m : Mk) : Pl := ⟨m.id, m.part, m.last⟩
instance : Keyed Maker DKey := ⟨fun m => ⟨m.id, m.part⟩⟩
instance : Keyed Mk DKey := ⟨fun m => ⟨m.id, m.part⟩⟩
instance : Keyed Pl DKey := ⟨fun m => ⟨m.id, m.part⟩⟩
instance : Valued Maker := ⟨fun m => .slice m.la m.last.length m.lc⟩
theorem key_pl (m : Maker) : key m.pl = key m := rfl
theorem key_mk (m : Maker) : key m.mk' = key m := rfl
theorem key_mkpl (m : Mk) : key m.pl = key m := rfl
/-- how keys compare -/
def ordK (a b : DKey) : Int := orI [cmpI a.id b.id, cmpS a.part.topic b.part.topic, cmpI a.part.n b.part.n]
def ltK (a b : DKey) : Prop := a.id < b.id ∨ a.id = b.id ∧ (slt a.part.topic b.part.topic ∨ a.part.topic = b.part.topic ∧ a.part.n < b.part.n)
instance (a b : DKey) : Decidable (ltK a b) := inferInstanceAs (Decidable (_ ∨ _))
theorem ordK_lt (a b : DKey) : ordK a b < 0 ↔ ltK a b := by
  unfold ordK orI orI orI orI ltK
  rcases cmpI_cases a.id b.id with ⟨h1, h2⟩ | ⟨h1, h2⟩ | ⟨h1, h2⟩
  · simp [h1, h2]
  · simp [h2]; omega
  · rcases cmpS_cases a.part.topic b.part.topic with ⟨k1, k2⟩ | ⟨k1, k2⟩ | ⟨k1, k2⟩
    · simp only [h2, k2]; simp [h1, k1]
    · have : a.part.topic ≠ b.part.topic := by intro e; rw [e] at k1; exact slt_irrefl _ k1
      simp only [h2, k2]; simp [h1, slt_asymm k1, this]
    · rcases cmpI_cases a.part.n b.part.n with ⟨q1, q2⟩ | ⟨q1, q2⟩ | ⟨q1, q2⟩
      · simp only [h2, k2, q2]; simp [h1, k1, q1]
      · simp only [h2, k2, q2]; simp [h1, k1, slt_irrefl]; omega
      · simp only [h2, k2, q2]; simp [h1, k1, slt_irrefl]; omega
theorem ltK_irrefl (a : DKey) : ¬ ltK a a := by
  rintro (h | ⟨_, h | ⟨_, h⟩⟩)
  · omega
  · exact slt_irrefl _ h
  · omega
theorem ltK_trans {a b c : DKey} (h : ltK a b) (k : ltK b c) : ltK a c := by
  rcases h with h | ⟨h0, h | ⟨h1, h⟩⟩ <;> rcases k with k | ⟨k0, k | ⟨k1, k⟩⟩
  · exact .inl (by omega)
  · exact .inl (by omega)
  · exact .inl (by omega)
  · exact .inl (by omega)
  · exact .inr ⟨h0.trans k0, .inl (slt_trans h k)⟩
  · exact .inr ⟨h0.trans k0, .inl (k1 ▸ h)⟩
  · exact .inl (by omega)
  · exact .inr ⟨h0.trans k0, .inl (h1 ▸ k)⟩
  · exact .inr ⟨h0.trans k0, .inr ⟨h1.trans k1, by omega⟩⟩
theorem DKey.ext' {a b : DKey} (h1 : a.id = b.id) (h2 : a.part.topic = b.part.topic) (h3 : a.part.n = b.part.n) : a = b := by
  obtain ⟨i, p, n⟩ := a
  obtain ⟨i', p', n'⟩ := b
  simp only at h1 h2 h3
  subst h1 h2 h3
  rfl
theorem ltK_tri {a b : DKey} (h : a ≠ b) : ltK a b ∨ ltK b a := by
  by_cases h1 : a.id = b.id
  · by_cases h2 : a.part.topic = b.part.topic
    · have h3 : a.part.n ≠ b.part.n := fun e => h (DKey.ext' h1 h2 e)
      rcases Int.lt_or_lt_of_ne h3 with h4 | h4
      · exact .inl (.inr ⟨h1, .inr ⟨h2, h4⟩⟩)
      · exact .inr (.inr ⟨h1.symm, .inr ⟨h2.symm, h4⟩⟩)
    · rcases slt_tri h2 with h4 | h4
      · exact .inl (.inr ⟨h1, .inl h4⟩)
      · exact .inr (.inr ⟨h1.symm, .inl h4⟩)
  · rcases Int.lt_or_lt_of_ne h1 with h4 | h4
    · exact .inl (.inl h4)
    · exact .inr (.inl h4)
instance : KOrd DKey := ⟨ltK, fun _ _ => inferInstance, ltK_irrefl, ltK_trans, ltK_tri⟩
def ordMk (a b : Maker) : Int := ordK (key a) (key b)
theorem ordMk_lt (a b : Maker) : ordMk a b < 0 ↔ bfr a b := ordK_lt _ _
/-- sorted, with keys of their own: in order -/
theorem sorted_mk {l : List Maker} (hk : (l.map key).Nodup) (hl : l.Pairwise fun x y => ¬ ordMk y x < 0) : l.Pairwise bfr := by
  have hk2 : l.Pairwise (fun x y => key x ≠ key y) := List.pairwise_map.1 hk
  refine (hl.and hk2).imp ?_
  rintro x y ⟨h1, h2⟩
  rw [ordMk_lt] at h1
  rcases bfr_tri h2 with h | h
  · exact h
  · exact absurd h h1
/-! ### keys in maps: a struct of an int and a pair -/
section
variable {P : Program} {t s : TypeId} {f0 f1 g0 g1 : Field}
structure KeyN (P : Program) (t s : TypeId) (f0 f1 g0 g1 : Field) : Prop where
  pr : PairT P s g0 g1
  hu : P.underlying t = some (.struct #[f0, f1])
  hp : P.stoodInHeld t = false
  hs : P.underlying f0.type = some (.int .i64)
  hn : f1.type = s
  o0 : f0.offset = 0
  o1 : f1.offset = 1
  m0 : f0.name ≠ "_"
  m1 : f1.name ≠ "_"
theorem KeyN.eq (h : KeyN P t s f0 f1 g0 g1) (x y : DKey) (n : Nat) (w : World) :
    (Op.equalIn (n + 3) t (.agg (Lies.enc x).toArray) (.agg (Lies.enc y).toArray)).run P w = .ok (decide (x = y)) w := by
  have hfs : P.fieldsOf t = #[f0, f1] := by simp [Program.fieldsOf, h.hu]
  rw [run_equalIn_struct w (n + 2) t _ _ (by rw [hfs]; exact h.hu) h.hp, hfs]
  have p1 : ∀ x : DKey, (Go.part f0.type (Lies.enc x).toArray f0.offset).run P w = .ok (.int .i64 x.id) w := fun x => part_flat h.hs rfl (by rw [h.o0]; rfl) w
  have p2 : ∀ x : DKey, (Go.part f1.type (Lies.enc x).toArray f1.offset).run P w = .ok (.agg #[.string x.part.topic, .int .i64 x.part.n]) w := fun x => by rw [h.hn, h.o1]; exact h.pr.part rfl w
  have q1 := fun (a b : Int) (w : World) => run_equalIn_int (P := P) w (n + 1) f0.type .i64 .i64 a b h.hs
  have q2 := fun (a a' : ByteArray) (b b' : Int) (w : World) => h.pr.eq a a' b b' n w
  rw [← h.hn] at q2
  simp only [Op.eqFields, h.m0, h.m1, ne_eq, not_false_eq_true, if_true, Sem.run_bind, p1, Result.andThen_ok, q1]
  have hxy : x = y ↔ x.id = y.id ∧ x.part.topic = y.part.topic ∧ x.part.n = y.part.n := by
    obtain ⟨i, p, m⟩ := x
    obtain ⟨i', p', m'⟩ := y
    simp
  by_cases h1 : x.id = y.id
  · by_cases h2 : x.part.topic = y.part.topic ∧ x.part.n = y.part.n
    · simp [h1, p2, q2, hxy, h2]
    · have : decide (x.part.topic = y.part.topic ∧ x.part.n = y.part.n) = false := decide_eq_false h2
      simp [h1, p2, q2, hxy, this]
  · have h3 : (x.id == y.id) = false := by simpa using h1
    simp [h1, hxy, h3]
theorem KeyN.check (h : KeyN P t s f0 f1 g0 g1) (x : DKey) (em : Bool) (n : Nat) (w : World) : (Instr.checkKey em (n + 3) t (.agg (Lies.enc x).toArray)).run P w = .ok () w := by
  have p1 : (Go.part f0.type (Lies.enc x).toArray f0.offset).run P w = .ok (.int .i64 x.id) w := part_flat h.hs rfl (by rw [h.o0]; rfl) w
  have p2 : (Go.part f1.type (Lies.enc x).toArray f1.offset).run P w = .ok (.agg #[.string x.part.topic, .int .i64 x.part.n]) w := by rw [h.hn, h.o1]; exact h.pr.part rfl w
  have c1 := MapKept.run_checkKey (P := P) (w := w) h.hs (d := .int .i64) (k := .int .i64 x.id) rfl em (n + 1)
  have c2 := h.pr.check x.part.topic x.part.n em n w
  rw [← h.hn] at c2
  unfold Instr.checkKey
  simp [run_und h.hu, h.m0, h.m1, p1, p2, c1, c2]
theorem KeyN.asking (h : KeyN P t s f0 f1 g0 g1) (k : DKey) : ∀ (ks : List DKey) (es : List MapEntry) (i : Nat), es.map (·.key) = ks.map (fun x => Value.agg (Lies.enc x).toArray) → ∀ w, (Instr.findAsking t (.agg (Lies.enc k).toArray) es i).run P w = .ok (findK k ks es i) w
  | [], [], i, _, w => rfl
  | [], e :: es, i, h, w => by simp at h
  | k' :: ks, [], i, h, w => by simp at h
  | k' :: ks, e :: es, i, hh, w => by
    simp only [List.map_cons, List.cons.injEq] at hh
    have ih := h.asking k ks es (i + 1) hh.2 w
    unfold Instr.findAsking findK
    have hq := h.eq k k' 9997 w
    simp only [Sem.run_bind, Op.equal, hh.1]
    rw [show Op.maxDepth = 9997 + 3 from rfl, hq]
    by_cases hk : k = k'
    · subst hk; simp
    · simp [hk, ih]
@[reducible] def KeyN.keyT (h : KeyN P t s f0 f1 g0 g1) : KeyT P t DKey where
  enc k := .agg (Lies.enc k).toArray
  find k ks es hh w := by
    rw [run_findKey_eq w (by rw [h.hu])]
    exact h.asking k ks es 0 hh w
  check b k w := h.check k b 9997 w
  bits k := by simp [Lies.enc, Instr.sameBits, bytes_beq]
end
/-- slices looked up -/
theorem lkL {P : Program} {e : Env} {x y : Operand} {w : World} {t mt et : TypeId} {K : Type} [DecidableEq K] [KeyT P t K] {B m c : Nat} {lb : List (K × Value × Nat)} {sz by_ : Nat} [hu : Und P mt (.map t et)] [hi : Inf P et sz by_ (.slice none 0 0)] {k : K} {a : Option Addr} {n cc : Nat} (hx : ev e x = .map (some m)) (hm : MpB P t B w m lb c) (hy : ev e y = KeyT.enc P t k) (hg : (getB lb k).getD (.slice none 0 0) = .slice a n cc) : Does P e w (.lookup mt x y false) (.slice a n cc) := by
  have h := lkM (sz := sz) (by_ := by_) (zv := .slice none 0 0) (mt := mt) (et := et) hx hm hy
  rw [hg] at h
  exact h
section
variable {P : Program} {e : Env} {x y : Operand} {w : World} {t : TypeId}
theorem ld_o0 {α : Type} [Lies α] {w0 : World} {a : Option Addr} {l : List α} {i m : Nat} {v : Value} [hf : Flat P t] (hx : ev e x = elp a m) (hl : Sl w0 a l) (H : Ext w0 w) (hm : m = i * Lies.sz α) (hi : i < l.length) (hv : (Lies.enc l[i])[0]? = some v) (hs : 0 < Lies.sz α) : Does P e w (.load t x) v := by
  obtain ⟨p, rfl⟩ := hl.isAddr hs hi
  exact ld_e0 hx hl H hm hi hv
theorem ldS_o0 {α : Type} [Lies α] {w0 : World} {a : Option Addr} {l : List α} {i m sz : Nat} [hf : Agg P t sz] (hx : ev e x = elp a m) (hl : Sl w0 a l) (H : Ext w0 w) (hm : m = i * Lies.sz α) (hsz : Lies.sz α = sz) (hi : i < l.length) (hs : 0 < Lies.sz α) : Does P e w (.load t x) (.agg (Lies.enc l[i]).toArray) := by
  obtain ⟨p, rfl⟩ := hl.isAddr hs hi
  exact ldS_el hx hl H hm hsz hi
end
/-! ### going over a map, some of whose entries go -/
section
variable {K : Type}
theorem key_at {lb : List (K × Value × Nat)} (hn : (lb.map (·.1)).Nodup) {q x : K × Value × Nat} (hq : q ∈ lb) (hx : x ∈ lb) (h : x.1 = q.1) : x = q := by
  obtain ⟨i, hi, rfl⟩ := List.getElem_of_mem hq
  obtain ⟨j, hj, rfl⟩ := List.getElem_of_mem hx
  have := nodup_at hn hj hi h
  subst this
  rfl
theorem stamp_at {lb : List (K × Value × Nat)} (hn : (lb.map (·.2.2)).Nodup) {q x : K × Value × Nat} (hq : q ∈ lb) (hx : x ∈ lb) (h : x.2.2 = q.2.2) : x = q := by
  obtain ⟨i, hi, rfl⟩ := List.getElem_of_mem hq
  obtain ⟨j, hj, rfl⟩ := List.getElem_of_mem hx
  have h6 : (lb.map (·.2.2))[j]? = (lb.map (·.2.2))[i]? := by simp [hi, hj, h]
  have h7 : j = i := (List.getElem?_inj (by simpa using hj) hn).1 h6
  subst h7
  rfl
theorem Seen.contains {lb done : List (K × Value × Nat)} {seen : Array Nat} (h : Seen lb done seen) (n : Nat) : seen.contains n = true ↔ n ∈ done.map (·.2.2) := by
  rw [h.eq]; simp
/-- what is left of lb, when the entries of done that f tells are gone -/
def lbF (f : K → Bool) (lb done : List (K × Value × Nat)) : List (K × Value × Nat) := lb.filter fun x => !decide (x.2.2 ∈ done.map (·.2.2) ∧ f x.1 = true)
theorem lbF_nil (f : K → Bool) (lb : List (K × Value × Nat)) : lbF f lb [] = lb := by
  unfold lbF
  rw [List.filter_eq_self]
  intro x _
  simp
theorem lbF_mem {f : K → Bool} {lb done : List (K × Value × Nat)} {q : K × Value × Nat} (hq : q ∈ lbF f lb done) : q ∈ lb := (List.mem_filter.1 hq).1
theorem lbF_all {f : K → Bool} {lb done : List (K × Value × Nat)} {seen : Array Nat} (hs : Seen lb done seen) (h : ∀ x ∈ lbF f lb done, seen.contains x.2.2 = true) : ∀ x ∈ lb, seen.contains x.2.2 = true := by
  intro x hx
  by_cases hc : x.2.2 ∈ done.map (·.2.2) ∧ f x.1 = true
  · exact (hs.contains _).2 hc.1
  · exact h x (List.mem_filter.2 ⟨hx, by simp only [Bool.not_eq_true', decide_eq_false_iff_not]; exact hc⟩)
theorem lbF_keep {f : K → Bool} {lb done : List (K × Value × Nat)} (hb : (lb.map (·.2.2)).Nodup) {q : K × Value × Nat} (hq : q ∈ lb) (hc : ¬ f q.1 = true) : lbF f lb (done ++ [q]) = lbF f lb done := by
  unfold lbF
  apply List.filter_congr
  intro x hx
  congr 1
  rw [decide_eq_decide]
  simp only [List.map_append, List.mem_append, List.map_cons, List.map_nil, List.mem_singleton]
  constructor
  · rintro ⟨h1 | h1, h2⟩
    · exact ⟨h1, h2⟩
    · have := stamp_at hb hq hx h1
      subst this
      exact absurd h2 hc
  · rintro ⟨h1, h2⟩
    exact ⟨.inl h1, h2⟩
theorem lbF_del [DecidableEq K] {f : K → Bool} {lb done : List (K × Value × Nat)} (hb : (lb.map (·.2.2)).Nodup) (hn : (lb.map (·.1)).Nodup) {q : K × Value × Nat} (hq : q ∈ lb) (hc : f q.1 = true) : delB (lbF f lb done) q.1 = lbF f lb (done ++ [q]) := by
  unfold delB lbF
  rw [List.filter_filter]
  apply List.filter_congr
  intro x hx
  rw [Bool.eq_iff_iff]
  simp only [Bool.and_eq_true, Bool.not_eq_true', decide_eq_false_iff_not, List.map_append, List.mem_append, List.map_cons, List.map_nil, List.mem_singleton]
  constructor
  · rintro ⟨h1, h2⟩ ⟨h3 | h3, h4⟩
    · exact h2 ⟨h3, h4⟩
    · have := stamp_at hb hq hx h3
      subst this
      exact h1 rfl
  · intro h1
    refine ⟨fun e => ?_, fun ⟨h3, h4⟩ => h1 ⟨.inl h3, h4⟩⟩
    have := key_at hn hq hx e
    subst this
    exact h1 ⟨.inr rfl, hc⟩
theorem lbF_end {f : K → Bool} {lb done : List (K × Value × Nat)} (hp : done.Perm lb) : lbF f lb done = lb.filter fun x => !f x.1 := by
  unfold lbF
  apply List.filter_congr
  intro x hx
  have : x.2.2 ∈ done.map (·.2.2) := List.mem_map.2 ⟨x, hp.mem_iff.2 hx, rfl⟩
  cases h : f x.1 <;> simp [this]
theorem rep_filter {V : Type} [Keyed V K] [Valued V] {lb : List (K × Value × Nat)} {S : List V} (h : Rep lb S) (f : K → Bool) : Rep (lb.filter fun x => !f x.1) (S.filter fun x => !f (key x)) := by
  have h1 := h.filter fun p => !f p.1
  rw [List.filter_map, List.filter_map] at h1
  exact h1
end
end Go.Eng
