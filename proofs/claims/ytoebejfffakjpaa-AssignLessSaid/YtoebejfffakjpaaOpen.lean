/-
  Open: walks and laws, written by gen/gen.py out of gen/thy/Open.py.
-/
import Derived.Test.YtoebejfffakjpaaRow
import Derived.Test.YtoebejfffakjpaaCut
set_option linter.unusedVariables false
namespace Go.Proofs.Ytoebejfffakjpaa
open Go Go.Eng Go.RowKit
open Go.ChangeShapes Go.WideShapes Go.ChangeAt
theorem laidOut : laidOutB Try.prog = true := by kernel_rfl
theorem own : ownKnob Try.prog.godebug = none := by kernel_rfl
instance : Rd Try.prog 9 ByteArray := ⟨fun _ s => s.size ≤ maxLen, by kernel_rfl, fun h => by
  obtain ⟨s, rfl, _, hs⟩ := DataW.trod_string (Und.h) h
  exact ⟨s, rfl, hs⟩⟩
instance : Rd Try.prog 3 Int := ⟨fun _ n => -9223372036854775808 ≤ n ∧ n ≤ 9223372036854775807, by kernel_rfl, fun h => by
  obtain ⟨n, rfl, _, hn⟩ := DataW.trod_int (Und.h) h
  exact ⟨n, rfl, bounds_i64 hn⟩⟩
instance : Rd Try.prog 46 Topic := ⟨fun _ x => True, by kernel_rfl, fun h => by
  obtain ⟨m, x0, x1, c0, c1, rfl, h0, h1⟩ := trod_two Try.underlying46 rfl (by kernel_rfl) (by kernel_rfl) h
  obtain ⟨s, rfl, _⟩ := (inferInstance : Rd Try.prog 9 ByteArray).down h0
  obtain ⟨n, rfl, _⟩ := (inferInstance : Rd Try.prog 3 Int).down h1
  exact ⟨⟨s, n⟩, rfl, trivial⟩⟩
instance : Rd Try.prog 27 Part := ⟨fun _ x => True, by kernel_rfl, fun h => by
  obtain ⟨m, x0, x1, c0, c1, rfl, h0, h1⟩ := trod_two Try.underlying27 rfl (by kernel_rfl) (by kernel_rfl) h
  obtain ⟨s, rfl, _⟩ := (inferInstance : Rd Try.prog 9 ByteArray).down h0
  obtain ⟨n, rfl, _⟩ := (inferInstance : Rd Try.prog 3 Int).down h1
  exact ⟨⟨s, n⟩, rfl, trivial⟩⟩
instance : Rd Try.prog 40 Mem := ⟨fun w x => SlI w x.ta x.topics, by kernel_rfl, fun h => by
  obtain ⟨m, x0, x1, c0, c1, rfl, h0, h1⟩ := trod_two Try.underlying40 rfl (by kernel_rfl) (by kernel_rfl) h
  obtain ⟨s, rfl, _⟩ := (inferInstance : Rd Try.prog 9 ByteArray).down h0
  obtain ⟨r, rfl, hr, _⟩ := trod_rows (α := ByteArray) (e := 9) (Und.h) (by decide) h1
  exact ⟨⟨s, r.a, r.c, r.l⟩, rfl, hr⟩⟩
/-- what a statement is asked with -/
theorem open_ask {H : Type} {enc : TypeId × Value → H} {W : World} {v : Value} {d : DataW H} {p : List MemPlace} {base : Nat} {spare : Nat → Bool} {held : Bool} (hv : Value.okWide Try.prog W .any base 25 v) (h : DataW.Trod enc Try.prog W 0 spare held 25 v d p) :
    ∃ (a b : Option Addr) (c e : Nat) (l : List Topic) (m : List Mem), v = .agg [.slice a l.length c, .slice b m.length e].toArray ∧ SlI W a l ∧ SlI W b m ∧ ∀ x ∈ m, SlI W x.ta x.topics := by
  obtain ⟨cs, rfl, _⟩ := okWide_struct Try.underlying25 hv
  obtain ⟨n, hn⟩ := h
  obtain ⟨k, x0, x1, c0, c1, hcs, h0, h1⟩ := trod_two Try.underlying25 rfl (by kernel_rfl) (by kernel_rfl) hn
  obtain ⟨r, rfl, hr, _⟩ := trod_rows (α := Topic) (e := 46) (Und.h) (by decide) h0
  obtain ⟨q, rfl, hq, hqs, _⟩ := trod_rows (α := Mem) (e := 40) (Und.h) (by decide) h1
  refine ⟨r.a, q.a, r.c, q.c, r.l, q.l, ?_, hr, hq, hqs⟩
  congr 1
  exact Array.toList_inj.1 hcs
theorem open_part {H : Type} {enc : TypeId × Value → H} {W : World} {v : Value} {d : DataW H} {p : List MemPlace} {base : Nat} {spare : Nat → Bool} {held : Bool} (hv : Value.okWide Try.prog W .any base 27 v) (h : DataW.Trod enc Try.prog W 0 spare held 27 v d p) :
    ∃ x : Part, v = .agg (Lies.enc x).toArray := by
  obtain ⟨cs, rfl, _⟩ := okWide_struct Try.underlying27 hv
  obtain ⟨n, hn⟩ := h
  obtain ⟨x, hx, _⟩ := (inferInstance : Rd Try.prog 27 Part).down hn
  exact ⟨x, by congr 1; exact Array.toList_inj.1 hx⟩
end Go.Proofs.Ytoebejfffakjpaa
