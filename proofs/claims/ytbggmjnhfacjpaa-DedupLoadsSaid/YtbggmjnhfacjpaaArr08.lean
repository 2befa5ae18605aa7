/-
  An array of two partitions; a part whose topic is cut.
-/
import Derived.Test.YtbggmjnhfacjpaaOpen08
set_option linter.unusedVariables false
namespace Go.Proofs.Ytbggmjnhfacjpaa
open Go Go.Eng Go.RowKit
instance undA : Und Try.prog 55 (.array 2 25) := ⟨Try.underlying55⟩
instance infA : Inf Try.prog 55 4 48 (.agg #[.string ByteArray.empty, .int .i64 0, .string ByteArray.empty, .int .i64 0]) := inf_mk (by kernel_rfl)
instance aggA : Agg Try.prog 55 4 := agg_mk Try.underlying55 rfl infA
theorem ix_arr {P : Program} {e : Env} {x y : Operand} {tt el : TypeId} {n sz by_ : Nat} {z : Value} [hu : Und P tt (.array n el)] [hi : Inf P el sz by_ z] {b k : Nat} {j : Int} {i : Nat} (hx : ev e x = .pointer (some ⟨b, k, none⟩)) (hy : ev e y = .int .i64 j) (hj : j = (i : Int)) (hk : i < n) :
    Pure P e (.indexAddr tt x y) (.pointer (some ⟨b, k + i * sz, none⟩)) := by
  intro w d ty pos after g
  obtain ⟨inf, h1, h2, h3, h4⟩ := hi.h
  subst h2
  simp only [execOp, hx, hy, hj]
  simp [Instr.indexAt, asIntOf, run_und hu.h, run_size h1, Instr.sureAddr, hk, addr_add]
/-! ### contracts whose answers stay unread -/
theorem pAskS (w0 : World) (B i : Nat) (Z : Nat → Prop) (D : Ds) (hT : Tg B w0 i Z D) (K : Int) (M : Nat) (hok : okD K M D) (hK : 0 ≤ K ∧ K ≤ 4611686018427387904) (p : Part) (id epoch seq : Int) (ra : Option Addr) (rc : Nat) (recs : List Rec) {n : Nat} (hn : recs.length = n) :
    Ct Try.prog 20 #[.pointer (some ⟨i, 0, none⟩), .agg (Lies.enc p).toArray, .agg (Lies.enc (⟨id, epoch, seq, ra, rc, recs⟩ : Bat)).toArray] w0 fun v w' => (∃ r t e, askN D p id epoch seq n = (r, t, e) ∧ v = .tuple #[.int .i64 r, .bool (decide (t = true)), .int .i64 e]) ∧ Ext w0 w' :=
  (pAskN w0 B i Z D hT K M hok hK p id epoch seq ra rc recs hn (show askN D p id epoch seq n = ((askN D p id epoch seq n).1, (askN D p id epoch seq n).2.1, (askN D p id epoch seq n).2.2) from rfl)).mono fun v w' ⟨h, hx⟩ => ⟨⟨_, _, _, rfl, h⟩, hx⟩
theorem pOpenS (w0 : World) (B i : Nat) (Z : Nat → Prop) (D : Ds) (hT : Tg B w0 i Z D) (K : Int) (M : Nat) (hok : okD K M D) (id : Int) {r s : Int} {e : Int} {D' : Ds} (hx : openA D id = (r, s, e)) (hd : openD D id = D') :
    Ct Try.prog 15 #[.pointer (some ⟨i, 0, none⟩), .int .i64 id] w0 fun v w' => (∃ e', e' = e ∧ v = .tuple #[.int .i64 r, .int .i64 s, .int .i64 e'] ∧ ∃ Z', Tg B w' i Z' D' ∧ Grew Z Z' w0.heap.size) ∧ Upd Z w0 w' :=
  (pOpenN w0 B i Z D hT K M hok id hx hd).mono fun v w' ⟨⟨h, h2⟩, hx⟩ => ⟨⟨e, rfl, h, h2⟩, hx⟩
theorem pDoneS (w0 : World) (B i : Nat) (Z : Nat → Prop) (D : Ds) (hT : Tg B w0 i Z D) (K : Int) (M : Nat) (hok : okD K M D) (hK : 0 ≤ K ∧ K ≤ 4611686018427387904) (p : Part) (id epoch seq : Int) (ra : Option Addr) (rc : Nat) (recs : List Rec) (off : Int) {n : Nat} (hn : recs.length = n) :
    Ct Try.prog 13 #[.pointer (some ⟨i, 0, none⟩), .agg (Lies.enc p).toArray, .agg (Lies.enc (⟨id, epoch, seq, ra, rc, recs⟩ : Bat)).toArray, .int .i64 off] w0 fun v w' => (∃ e, doneEN D p id epoch seq n off = e ∧ v = .int .i64 e ∧ ∃ Z', Tg B w' i Z' (doneDN D p id epoch seq n off) ∧ Grew Z Z' w0.heap.size) ∧ Upd Z w0 w' :=
  (pDoneN w0 B i Z D hT K M hok hK p id epoch seq ra rc recs off hn rfl rfl).mono fun v w' ⟨⟨h, h2⟩, hx⟩ => ⟨⟨_, rfl, h, h2⟩, hx⟩
/-- a topic of at most 40 bytes -/
def cutP (p : Part) : Part := ⟨p.topic.extract 0 (min p.topic.size 40), p.n⟩
theorem cutP_le (p : Part) : (cutP p).topic.size ≤ 40 := by
  unfold cutP
  rw [ByteArray.size_extract]
  omega
end Go.Proofs.Ytbggmjnhfacjpaa
