/-
  The order of texts; things that have texts as keys.
-/
import Derived.Test.YtdcckaamepilcaaRep
import Derived.Test.YtdcckaamepilcaaKeys
import Derived.Test.YtdcckaamepilcaaData
set_option linter.unusedVariables false
namespace Go.Eng
open Go Go.RowKit

/-- a & K -/
def andv (K : Nat) (a : Int) : Nat := (BitVec.ofInt 64 a &&& BitVec.ofInt 64 (K : Int)).toNat
theorem andv_le (K : Nat) (hK : K ≤ 9223372036854775807) (a : Int) : andv K a ≤ K := by
  unfold andv
  rw [BitVec.toNat_and]
  refine Nat.le_trans Nat.and_le_right ?_
  rw [BitVec.toNat_ofInt]
  have : ((K : Int) % ((2 ^ 64 : Nat) : Int)) = (K : Int) := Int.emod_eq_of_lt (by omega) (by omega)
  rw [this]
  simp
theorem andk {P : Program} {e : Env} {x y : Operand} {t t' : TypeId} {K : Nat} {a : Int} (hx : ev e x = .int .i64 a) (hy : ev e y = .int .i64 (K : Int)) (hK : K ≤ 9223372036854775807) : Pure P e (.binOp .and t x y t') (.int .i64 ((andv K a : Nat) : Int)) := by
  intro w d ty pos after g
  have h := andv_le K hK a
  have h1 := IntWalk.i64_in ((andv K a : Nat) : Int) (by omega)
  simp only [execOp, hx, hy]
  simp [eqGuard, binOp, Op.intBits]
  exact h1
/-- the ways meet again, whatever stands behind -/
theorem WP.cutN {P : Program} {n : Nat} {Q : Exit → Env → World → Prop} {e : Env} {w : World} {α : Type} {c : Code} (D : List Nat) (l : α → List (Nat × Value)) (J : α → World → Prop) (h1 : WP P n c (thn (fun e' w' => ∃ x, Head D e (l x) e' ∧ J x w') Q) (look [] e) w)
    (h2 : ∀ x j w', J x w' → Q .normal (look (l x) (mix D j e)) w') : WP P n c Q e w := by
  refine WP.mono (Q := thn (fun e' w' => ∃ x, Head D e (l x) e' ∧ J x w') Q) h1 ?_
  intro x e' w' hq
  cases x with
  | normal => obtain ⟨y, ⟨j, rfl⟩, hj⟩ := hq; exact h2 y j w' hj
  | _ => exact hq
theorem blt_trans : ∀ (a b c : List UInt8), Op.bytesLess a b = true → Op.bytesLess b c = true → Op.bytesLess a c = true
  | _, _, [], _, h => by cases ‹List UInt8› <;> simp [Op.bytesLess] at h
  | _, [], _ :: _, h, _ => by cases ‹List UInt8› <;> simp [Op.bytesLess] at h
  | [], _ :: _, _ :: _, _, _ => rfl
  | x :: a, y :: b, z :: c, h1, h2 => by
    simp only [Op.bytesLess, Bool.or_eq_true, Bool.and_eq_true, decide_eq_true_eq, beq_iff_eq] at h1 h2 ⊢
    rcases h1 with h1 | ⟨rfl, h1⟩
    · rcases h2 with h2 | ⟨rfl, h2⟩
      · left; exact UInt8.lt_trans h1 h2
      · left; exact h1
    · rcases h2 with h2 | ⟨rfl, h2⟩
      · left; exact h2
      · right; exact ⟨rfl, blt_trans a b c h1 h2⟩
theorem slt_trans {a b c : ByteArray} (h : slt a b) (k : slt b c) : slt a c := blt_trans _ _ _ h k
theorem slt_irrefl (a : ByteArray) : ¬ slt a a := by
  intro h
  have key : ∀ l : List UInt8, Op.bytesLess l l = false := by
    intro l
    induction l with
    | nil => rfl
    | cons x l ih => simp [Op.bytesLess, ih]
  unfold slt at h
  rw [key] at h
  cases h
theorem slt_tri {a b : ByteArray} (h : a ≠ b) : slt a b ∨ slt b a := by
  unfold slt
  rw [bytesLess_total a.toList b.toList]
  cases h1 : Op.bytesLess b.toList a.toList
  · left
    have h2 : (b.toList == a.toList) = false := by rw [toList_beq]; simp; exact Ne.symm h
    rw [h2]; rfl
  · exact .inr rfl
theorem slt_asymm {a b : ByteArray} (h : slt a b) : ¬ slt b a := fun k => slt_irrefl _ (slt_trans h k)
theorem blt_lt : ∀ x y : List UInt8, Op.bytesLess x y = true ↔ x < y
  | _, [] => by cases ‹List UInt8› <;> simp [Op.bytesLess]
  | [], b :: y => by simp [Op.bytesLess]
  | a :: x, b :: y => by
    rw [List.cons_lt_cons_iff, ← blt_lt x y]
    simp [Op.bytesLess]
theorem slt_le {a b : ByteArray} (h : slt a b) : toL a ≤ toL b := by
  unfold slt at h
  rw [blt_lt, ByteArray.toList_eq, ByteArray.toList_eq] at h
  exact List.le_of_lt h
instance : KOrd ByteArray := ⟨slt, fun _ _ => inferInstance, slt_irrefl, slt_trans, slt_tri⟩
theorem klt (a b : ByteArray) : KOrd.lt a b ↔ slt a b := Iff.rfl

instance : Keyed Topic ByteArray := ⟨Topic.name⟩
instance : Valued Topic := ⟨fun t => .int .i64 t.n⟩
instance : Keyed Seat ByteArray := ⟨Seat.name⟩
instance : Valued Seat := ⟨fun s => .agg (Lies.enc s).toArray⟩
/-- a seat, but for where its topics lie -/
structure St where
  name : ByteArray
  topics : List ByteArray
  timeout : Int
  seen : Int
deriving DecidableEq
def zSeat : Seat := ⟨ByteArray.empty, none, 0, [], 0, 0⟩
def Seat.st (s : Seat) : St := ⟨s.name, s.topics, s.timeout, s.seen⟩
def Seat.m (s : Seat) : Mem := ⟨s.name, s.ta, s.tc, s.topics⟩
instance : Keyed St ByteArray := ⟨St.name⟩
theorem key_st (s : Seat) : key s.st = key s := rfl
theorem bfr_name {V : Type} [Keyed V ByteArray] (x y : V) : bfr x y ↔ slt (key x) (key y) := Iff.rfl

/-- a call of a script -/
structure GOp where
  kind : Int
  s : Seat
  gen : Int
  now : Int
  rb : Bool
instance : Lies GOp := ⟨8, fun o => .int .i64 o.kind :: (Lies.enc o.s ++ [.int .i64 o.gen, .int .i64 o.now, .bool o.rb]), fun _ => rfl⟩
/-- the sorted keys of a map -/
theorem sortB_keys {V : Type} [Keyed V ByteArray] [Valued V] {lb : List (ByteArray × Value × Nat)} {S : List V} (h : Rep lb S) (hs : S.Pairwise bfr) {l : List ByteArray} (hl : l.Perm (lb.map (·.1))) : sortB l = S.map key := by
  refine sortB_eq (hl.trans (rep_keys h)) (List.pairwise_map.2 (hs.imp fun h => slt_le h))
end Go.Eng
