/-
  What the statements of chapter 9 are asked with.
-/
import Derived.Test.YtdcckaamepilcaaRow
import Derived.Test.YtdcckaamepilcaaFix09
set_option linter.unusedVariables false
namespace Go.Proofs.Ytdcckaamepilcaa
open Go Go.Eng Go.RowKit
open Go.ChangeShapes Go.WideShapes Go.ChangeAt
/-- a call of a script -/
structure TOp where
  kind : Int
  name : ByteArray
  n : Int
instance : Lies TOp := ⟨3, fun o => [.int .i64 o.kind, .string o.name, .int .i64 o.n], fun _ => rfl⟩
theorem laidOut : laidOutB Try.prog = true := by kernel_rfl
theorem own : ownKnob Try.prog.godebug = none := by kernel_rfl
instance : Rd Try.prog 9 ByteArray := ⟨fun _ s => s.size ≤ maxLen, by kernel_rfl, fun h => by
  obtain ⟨s, rfl, _, hs⟩ := DataW.trod_string (Und.h) h
  exact ⟨s, rfl, hs⟩⟩
instance : Rd Try.prog 3 Int := ⟨fun _ n => -9223372036854775808 ≤ n ∧ n ≤ 9223372036854775807, by kernel_rfl, fun h => by
  obtain ⟨n, rfl, _, hn⟩ := DataW.trod_int (Und.h) h
  exact ⟨n, rfl, bounds_i64 hn⟩⟩
instance : Rd Try.prog 25 Topic := ⟨fun _ x => True, by kernel_rfl, fun h => by
  obtain ⟨m, x0, x1, c0, c1, rfl, h0, h1⟩ := trod_two Try.underlying25 rfl (by kernel_rfl) (by kernel_rfl) h
  obtain ⟨s, rfl, _⟩ := (inferInstance : Rd Try.prog 9 ByteArray).down h0
  obtain ⟨n, rfl, _⟩ := (inferInstance : Rd Try.prog 3 Int).down h1
  exact ⟨⟨s, n⟩, rfl, trivial⟩⟩
instance : Rd Try.prog 41 TOp := ⟨fun _ x => True, by kernel_rfl, fun h => by
  obtain ⟨m, x0, x1, x2, c0, c1, c2, rfl, h0, h1, h2⟩ := trod_three Try.underlying41 rfl (by kernel_rfl) (by kernel_rfl) (by kernel_rfl) h
  obtain ⟨k, rfl, _⟩ := (inferInstance : Rd Try.prog 3 Int).down h0
  obtain ⟨s, rfl, _⟩ := (inferInstance : Rd Try.prog 9 ByteArray).down h1
  obtain ⟨n, rfl, _⟩ := (inferInstance : Rd Try.prog 3 Int).down h2
  exact ⟨⟨k, s, n⟩, rfl, trivial⟩⟩
section
variable {H : Type} {enc : TypeId × Value → H} {W : World} {v : Value} {d : DataW H} {p : List MemPlace} {base : Nat} {spare : Nat → Bool} {held : Bool}
theorem open_topics (hv : Value.okWide Try.prog W .any base 22 v) (h : DataW.Trod enc Try.prog W 0 spare held 22 v d p) :
    ∃ (a : Option Addr) (c : Nat) (l : List Topic), v = .slice a l.length c ∧ SlI W a l := by
  obtain ⟨a, len, cap, rfl⟩ := okWide_slice (Und.h) hv
  obtain ⟨n, hn⟩ := h
  obtain ⟨r, hc, hr, _⟩ := trod_rows (α := Topic) (e := 25) (Und.h) (by decide) hn
  refine ⟨r.a, r.c, r.l, ?_, hr⟩
  simpa [Value.cells] using hc
theorem open_texts (hv : Value.okWide Try.prog W .any base 42 v) (h : DataW.Trod enc Try.prog W 0 spare held 42 v d p) :
    ∃ (a : Option Addr) (c : Nat) (l : List ByteArray), v = .slice a l.length c ∧ SlI W a l := by
  obtain ⟨a, len, cap, rfl⟩ := okWide_slice (Und.h) hv
  obtain ⟨n, hn⟩ := h
  obtain ⟨r, hc, hr, _⟩ := trod_rows (α := ByteArray) (e := 9) (Und.h) (by decide) hn
  refine ⟨r.a, r.c, r.l, ?_, hr⟩
  simpa [Value.cells] using hc
theorem open_ops (hv : Value.okWide Try.prog W .any base 37 v) (h : DataW.Trod enc Try.prog W 0 spare held 37 v d p) :
    ∃ (a : Option Addr) (c : Nat) (l : List TOp), v = .slice a l.length c ∧ SlI W a l := by
  obtain ⟨a, len, cap, rfl⟩ := okWide_slice Try.underlying37 hv
  obtain ⟨n, hn⟩ := h
  obtain ⟨r, hc, hr, _⟩ := trod_rows (α := TOp) (e := 41) Try.underlying37 (by decide) hn
  refine ⟨r.a, r.c, r.l, ?_, hr⟩
  simpa [Value.cells] using hc
theorem open_int (hv : Value.okWide Try.prog W .any base 3 v) (h : DataW.Trod enc Try.prog W 0 spare held 3 v d p) :
    ∃ x : Int, v = .int .i64 x ∧ -9223372036854775808 ≤ x ∧ x ≤ 9223372036854775807 := by
  obtain ⟨k, rfl⟩ := okWide_int Try.underlying3 hv
  obtain ⟨n, hn⟩ := h
  obtain ⟨x, hx, hb⟩ := (inferInstance : Rd Try.prog 3 Int).down hn
  refine ⟨x, ?_, hb⟩
  simpa [Value.cells, Lies.enc] using hx
theorem open_text (hv : Value.okWide Try.prog W .any base 9 v) (h : DataW.Trod enc Try.prog W 0 spare held 9 v d p) :
    ∃ x : ByteArray, v = .string x := okWide_string Try.underlying9 hv
end
end Go.Proofs.Ytdcckaamepilcaa
