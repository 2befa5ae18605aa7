/-
  What the statements of chapter 12 are asked with.
-/
import Derived.Test.YtmjamhgihbapjaaRow
import Derived.Test.YtmjamhgihbapjaaLoads12
set_option linter.unusedVariables false
namespace Go.Proofs.Ytmjamhgihbapjaa
open Go Go.Eng Go.RowKit
open Go.ChangeShapes Go.WideShapes Go.ChangeAt
theorem laidOut : laidOutB Try.prog = true := by kernel_rfl
theorem own : ownKnob Try.prog.godebug = none := by kernel_rfl
instance : Rd Try.prog 9 ByteArray := ⟨fun _ s => s.size ≤ maxLen, by kernel_rfl, fun h => by
  obtain ⟨s, rfl, _, hs⟩ := DataW.trod_string (Und.h) h
  exact ⟨s, rfl, hs⟩⟩
instance : Rd Try.prog 3 Int := ⟨fun _ n => -9223372036854775808 ≤ n ∧ n ≤ 9223372036854775807, by kernel_rfl, fun h => by
  obtain ⟨n, rfl, _, hn⟩ := DataW.trod_int (Und.h) h
  exact ⟨n, rfl, bounds_i64 hn⟩⟩
instance : Rd Try.prog 24 Part := ⟨fun _ x => True, by kernel_rfl, fun h => by
  obtain ⟨m, x0, x1, c0, c1, rfl, h0, h1⟩ := trod_two Try.underlying24 rfl (by kernel_rfl) (by kernel_rfl) h
  obtain ⟨s, rfl, _⟩ := (inferInstance : Rd Try.prog 9 ByteArray).down h0
  obtain ⟨n, rfl, _⟩ := (inferInstance : Rd Try.prog 3 Int).down h1
  exact ⟨⟨s, n⟩, rfl, trivial⟩⟩
instance : Rd Try.prog 26 Mrk := ⟨fun _ x => True, by kernel_rfl, fun h => by
  obtain ⟨m, x0, x1, x2, c0, c1, c2, rfl, h0, h1, h2⟩ := trod_three Try.underlying26 rfl (by kernel_rfl) (by kernel_rfl) (by kernel_rfl) h
  obtain ⟨s, rfl, _⟩ := (inferInstance : Rd Try.prog 9 ByteArray).down h0
  obtain ⟨p, rfl, _⟩ := (inferInstance : Rd Try.prog 24 Part).down h1
  obtain ⟨n, rfl, _⟩ := (inferInstance : Rd Try.prog 3 Int).down h2
  exact ⟨⟨s, p.topic, p.n, n⟩, rfl, trivial⟩⟩
instance : Rd Try.prog 42 MOp := ⟨fun _ x => True, by kernel_rfl, fun h => by
  obtain ⟨m, x0, x1, c0, c1, rfl, h0, h1⟩ := trod_two Try.underlying42 rfl (by kernel_rfl) (by kernel_rfl) h
  obtain ⟨k, rfl, _⟩ := (inferInstance : Rd Try.prog 3 Int).down h0
  obtain ⟨x, rfl, _⟩ := (inferInstance : Rd Try.prog 26 Mrk).down h1
  exact ⟨⟨k, x⟩, rfl, trivial⟩⟩
section
variable {H : Type} {enc : TypeId × Value → H} {W : World} {v : Value} {d : DataW H} {p : List MemPlace} {base : Nat} {spare : Nat → Bool} {held : Bool}
theorem open_marks (hv : Value.okWide Try.prog W .any base 22 v) (h : DataW.Trod enc Try.prog W 0 spare held 22 v d p) :
    ∃ (a : Option Addr) (c : Nat) (l : List Mrk), v = .slice a l.length c ∧ SlI W a l := by
  obtain ⟨a, len, cap, rfl⟩ := okWide_slice (Und.h) hv
  obtain ⟨n, hn⟩ := h
  obtain ⟨r, hc, hr, _⟩ := trod_rows (α := Mrk) (e := 26) (Und.h) (by decide) hn
  refine ⟨r.a, r.c, r.l, ?_, hr⟩
  simpa [Value.cells] using hc
theorem open_ops (hv : Value.okWide Try.prog W .any base 39 v) (h : DataW.Trod enc Try.prog W 0 spare held 39 v d p) :
    ∃ (a : Option Addr) (c : Nat) (l : List MOp), v = .slice a l.length c ∧ SlI W a l := by
  obtain ⟨a, len, cap, rfl⟩ := okWide_slice (Und.h) hv
  obtain ⟨n, hn⟩ := h
  obtain ⟨r, hc, hr, _⟩ := trod_rows (α := MOp) (e := 42) (Und.h) (by decide) hn
  refine ⟨r.a, r.c, r.l, ?_, hr⟩
  simpa [Value.cells] using hc
theorem open_mark (hv : Value.okWide Try.prog W .any base 26 v) (h : DataW.Trod enc Try.prog W 0 spare held 26 v d p) :
    ∃ x : Mrk, v = .agg (Lies.enc x).toArray := by
  obtain ⟨cs, rfl, _⟩ := okWide_struct Try.underlying26 hv
  obtain ⟨n, hn⟩ := h
  obtain ⟨x, hx, _⟩ := (inferInstance : Rd Try.prog 26 Mrk).down hn
  exact ⟨x, by congr 1; exact Array.toList_inj.1 hx⟩
theorem open_part (hv : Value.okWide Try.prog W .any base 24 v) (h : DataW.Trod enc Try.prog W 0 spare held 24 v d p) :
    ∃ x : Part, v = .agg (Lies.enc x).toArray := by
  obtain ⟨cs, rfl, _⟩ := okWide_struct Try.underlying24 hv
  obtain ⟨n, hn⟩ := h
  obtain ⟨x, hx, _⟩ := (inferInstance : Rd Try.prog 24 Part).down hn
  exact ⟨x, by congr 1; exact Array.toList_inj.1 hx⟩
theorem open_int (hv : Value.okWide Try.prog W .any base 3 v) (h : DataW.Trod enc Try.prog W 0 spare held 3 v d p) :
    ∃ x : Int, v = .int .i64 x ∧ -9223372036854775808 ≤ x ∧ x ≤ 9223372036854775807 := by
  obtain ⟨k, rfl⟩ := okWide_int (Und.h) hv
  obtain ⟨n, hn⟩ := h
  obtain ⟨x, hx, hb⟩ := (inferInstance : Rd Try.prog 3 Int).down hn
  refine ⟨x, ?_, hb⟩
  simpa [Value.cells, Lies.enc] using hx
theorem open_string (hv : Value.okWide Try.prog W .any base 9 v) (h : DataW.Trod enc Try.prog W 0 spare held 9 v d p) :
    ∃ x : ByteArray, v = .string x := by
  obtain ⟨k, rfl⟩ := okWide_string (Und.h) hv
  exact ⟨k, rfl⟩
end
end Go.Proofs.Ytmjamhgihbapjaa
