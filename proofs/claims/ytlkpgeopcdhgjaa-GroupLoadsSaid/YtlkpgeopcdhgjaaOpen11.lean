/-
  What the statements of chapter 11 are asked with.
-/
import Derived.Test.YtlkpgeopcdhgjaaRow
import Derived.Test.YtlkpgeopcdhgjaaFix11b
set_option linter.unusedVariables false
namespace Go.Proofs.Ytlkpgeopcdhgjaa
open Go Go.Eng Go.RowKit
set_option maxRecDepth 20000
open Go.ChangeShapes Go.WideShapes Go.ChangeAt
theorem laidOut : laidOutB Try.prog = true := by kernel_rfl
theorem own : ownKnob Try.prog.godebug = none := by kernel_rfl
instance : Rd Try.prog 9 ByteArray := ⟨fun _ s => s.size ≤ maxLen, by kernel_rfl, fun h => by
  obtain ⟨s, rfl, _, hs⟩ := DataW.trod_string (Und.h) h
  exact ⟨s, rfl, hs⟩⟩
instance : Rd Try.prog 3 Int := ⟨fun _ n => -9223372036854775808 ≤ n ∧ n ≤ 9223372036854775807, by kernel_rfl, fun h => by
  obtain ⟨n, rfl, _, hn⟩ := DataW.trod_int (Und.h) h
  exact ⟨n, rfl, bounds_i64 hn⟩⟩
instance : Rd Try.prog 58 Topic := ⟨fun _ x => True, by kernel_rfl, fun h => by
  obtain ⟨m, x0, x1, c0, c1, rfl, h0, h1⟩ := trod_two Try.underlying58 rfl (by kernel_rfl) (by kernel_rfl) h
  obtain ⟨s, rfl, _⟩ := (inferInstance : Rd Try.prog 9 ByteArray).down h0
  obtain ⟨n, rfl, _⟩ := (inferInstance : Rd Try.prog 3 Int).down h1
  exact ⟨⟨s, n⟩, rfl, trivial⟩⟩
instance : Rd Try.prog 29 Mem := ⟨fun w x => SlI w x.ta x.topics, by kernel_rfl, fun h => by
  obtain ⟨m, x0, x1, c0, c1, rfl, h0, h1⟩ := trod_two Try.underlying29 rfl (by kernel_rfl) (by kernel_rfl) h
  obtain ⟨s, rfl, _⟩ := (inferInstance : Rd Try.prog 9 ByteArray).down h0
  obtain ⟨r, rfl, hr, _⟩ := trod_rows (α := ByteArray) (e := 9) (Und.h) (by decide) h1
  exact ⟨⟨s, r.a, r.c, r.l⟩, rfl, hr⟩⟩
/-- what is known of a seat that comes in -/
def inSeat (w : World) (s : Seat) : Prop := SlI w s.ta s.topics ∧ (-9223372036854775808 ≤ s.timeout ∧ s.timeout ≤ 9223372036854775807) ∧ -9223372036854775808 ≤ s.seen ∧ s.seen ≤ 9223372036854775807
instance : Rd Try.prog 31 Seat := ⟨inSeat, by kernel_rfl, fun h => by
  obtain ⟨m, x0, x1, x2, c0, c1, c2, rfl, h0, h1, h2⟩ := trod_three Try.underlying31 rfl (by kernel_rfl) (by kernel_rfl) (by kernel_rfl) h
  obtain ⟨s, rfl, hs⟩ := (inferInstance : Rd Try.prog 29 Mem).down h0
  obtain ⟨p, rfl, hp⟩ := (inferInstance : Rd Try.prog 3 Int).down h1
  obtain ⟨n, rfl, hn⟩ := (inferInstance : Rd Try.prog 3 Int).down h2
  exact ⟨⟨s.name, s.ta, s.tc, s.topics, p, n⟩, rfl, hs, hp, hn⟩⟩
theorem trod_five {P : Program} {t : TypeId} {f0 f1 f2 f3 f4 : Field} {H : Type} {enc : TypeId × Value → H} {w : World} {base : Nat} {spare : Nat → Bool} {held : Bool} {n : Nat} {cs : List Value} {x : DataW H × List MemPlace}
    (ht : P.underlying t = some (.struct #[f0, f1, f2, f3, f4])) (o0 : f0.offset = 0) (o1 : f1.offset = P.cellsOf f0.type) (o2 : f2.offset = P.cellsOf f0.type + P.cellsOf f1.type) (o3 : f3.offset = P.cellsOf f0.type + P.cellsOf f1.type + P.cellsOf f2.type) (o4 : f4.offset = P.cellsOf f0.type + P.cellsOf f1.type + P.cellsOf f2.type + P.cellsOf f3.type) (hc : P.cellsOf t = P.cellsOf f0.type + P.cellsOf f1.type + P.cellsOf f2.type + P.cellsOf f3.type + P.cellsOf f4.type) (h : DataW.trod enc P w base spare held n t cs = some x) :
    ∃ m x0 x1 x2 x3 x4 c0 c1 c2 c3 c4, cs = c0 ++ (c1 ++ (c2 ++ (c3 ++ c4))) ∧ DataW.trod enc P w base spare held m f0.type c0 = some x0 ∧ DataW.trod enc P w base spare held m f1.type c1 = some x1 ∧ DataW.trod enc P w base spare held m f2.type c2 = some x2 ∧ DataW.trod enc P w base spare held m f3.type c3 = some x3 ∧ DataW.trod enc P w base spare held m f4.type c4 = some x4 := by
  obtain ⟨xs, m, _, _, hl, hxl, hf⟩ := DataW.trod_struct ht h
  have h0 := hf 0 f0 rfl
  have h1 := hf 1 f1 rfl
  have h2 := hf 2 f2 rfl
  have h3 := hf 3 f3 rfl
  have h4 := hf 4 f4 rfl
  rw [o0, List.drop_zero] at h0
  rw [o1] at h1
  rw [o2] at h2
  rw [o3] at h3
  rw [o4, List.take_of_length_le (by rw [List.length_drop]; omega)] at h4
  simp only [List.size_toArray, List.length_cons, List.length_nil] at hxl
  rw [List.getElem?_eq_getElem (by omega)] at h0 h1 h2 h3 h4
  refine ⟨m, _, _, _, _, _, _, _, _, _, _, ?_, h0, h1, h2, h3, h4⟩
  have e : ∀ (a b : Nat), List.drop a cs = (List.drop a cs).take b ++ List.drop (a + b) cs := fun a b => by rw [← List.drop_drop, List.take_append_drop]
  rw [← e, ← e, ← e, List.take_append_drop]
instance : Rd Try.prog 44 GOp := ⟨fun w o => inSeat w o.s, by kernel_rfl, fun h => by
  obtain ⟨m, x0, x1, x2, x3, x4, c0, c1, c2, c3, c4, rfl, h0, h1, h2, h3, h4⟩ := trod_five Try.underlying44 rfl (by kernel_rfl) (by kernel_rfl) (by kernel_rfl) (by kernel_rfl) (by kernel_rfl) h
  obtain ⟨k, rfl, _⟩ := (inferInstance : Rd Try.prog 3 Int).down h0
  obtain ⟨s, rfl, hs⟩ := (inferInstance : Rd Try.prog 31 Seat).down h1
  obtain ⟨g, rfl, _⟩ := (inferInstance : Rd Try.prog 3 Int).down h2
  obtain ⟨n, rfl, _⟩ := (inferInstance : Rd Try.prog 3 Int).down h3
  obtain ⟨b, rfl, _⟩ := DataW.trod_bool (Und.h) h4
  exact ⟨⟨k, s, g, n, b⟩, rfl, hs⟩⟩
section
variable {H : Type} {enc : TypeId × Value → H} {W : World} {v : Value} {d : DataW H} {p : List MemPlace} {base : Nat} {spare : Nat → Bool} {held : Bool}
theorem open_topics (hv : Value.okWide Try.prog W .any base 56 v) (h : DataW.Trod enc Try.prog W 0 spare held 56 v d p) :
    ∃ (a : Option Addr) (c : Nat) (l : List Topic), v = .slice a l.length c ∧ SlI W a l := by
  obtain ⟨a, len, cap, rfl⟩ := okWide_slice Try.underlying56 hv
  obtain ⟨n, hn⟩ := h
  obtain ⟨r, hc, hr, _⟩ := trod_rows (α := Topic) (e := 58) Try.underlying56 (by decide) hn
  refine ⟨r.a, r.c, r.l, ?_, hr⟩
  simpa [Value.cells] using hc
theorem open_ints (hv : Value.okWide Try.prog W .any base 71 v) (h : DataW.Trod enc Try.prog W 0 spare held 71 v d p) :
    ∃ (a : Option Addr) (c : Nat) (l : List Int), v = .slice a l.length c ∧ SlI W a l := by
  obtain ⟨a, len, cap, rfl⟩ := okWide_slice Try.underlying71 hv
  obtain ⟨n, hn⟩ := h
  obtain ⟨r, hc, hr, _⟩ := trod_rows (α := Int) (e := 3) Try.underlying71 (by decide) hn
  refine ⟨r.a, r.c, r.l, ?_, hr⟩
  simpa [Value.cells] using hc
theorem open_seats (hv : Value.okWide Try.prog W .any base 40 v) (h : DataW.Trod enc Try.prog W 0 spare held 40 v d p) :
    ∃ (a : Option Addr) (c : Nat) (l : List Seat), v = .slice a l.length c ∧ SlI W a l ∧ ∀ x ∈ l, inSeat W x := by
  obtain ⟨a, len, cap, rfl⟩ := okWide_slice Try.underlying40 hv
  obtain ⟨n, hn⟩ := h
  obtain ⟨r, hc, hr, hg, _⟩ := trod_rows (α := Seat) (e := 31) Try.underlying40 (by decide) hn
  refine ⟨r.a, r.c, r.l, ?_, hr, hg⟩
  simpa [Value.cells] using hc
theorem open_ops (hv : Value.okWide Try.prog W .any base 38 v) (h : DataW.Trod enc Try.prog W 0 spare held 38 v d p) :
    ∃ (a : Option Addr) (c : Nat) (l : List GOp), v = .slice a l.length c ∧ SlI W a l ∧ ∀ x ∈ l, inSeat W x.s := by
  obtain ⟨a, len, cap, rfl⟩ := okWide_slice Try.underlying38 hv
  obtain ⟨n, hn⟩ := h
  obtain ⟨r, hc, hr, hg, _⟩ := trod_rows (α := GOp) (e := 44) Try.underlying38 (by decide) hn
  refine ⟨r.a, r.c, r.l, ?_, hr, hg⟩
  simpa [Value.cells] using hc
theorem open_op (hv : Value.okWide Try.prog W .any base 44 v) (h : DataW.Trod enc Try.prog W 0 spare held 44 v d p) :
    ∃ x : GOp, v = .agg (Lies.enc x).toArray ∧ inSeat W x.s := by
  obtain ⟨cs, rfl, _⟩ := okWide_struct Try.underlying44 hv
  obtain ⟨n, hn⟩ := h
  obtain ⟨x, hx, hg⟩ := (inferInstance : Rd Try.prog 44 GOp).down hn
  exact ⟨x, by congr 1; exact Array.toList_inj.1 hx, hg⟩
theorem open_int (hv : Value.okWide Try.prog W .any base 3 v) (h : DataW.Trod enc Try.prog W 0 spare held 3 v d p) :
    ∃ x : Int, v = .int .i64 x ∧ -9223372036854775808 ≤ x ∧ x ≤ 9223372036854775807 := by
  obtain ⟨k, rfl⟩ := okWide_int Try.underlying3 hv
  obtain ⟨n, hn⟩ := h
  obtain ⟨x, hx, hb⟩ := (inferInstance : Rd Try.prog 3 Int).down hn
  refine ⟨x, ?_, hb⟩
  simpa [Value.cells, Lies.enc] using hx
theorem open_bool (hv : Value.okWide Try.prog W .any base 4 v) (_ : DataW.Trod enc Try.prog W 0 spare held 4 v d p) :
    ∃ x : Bool, v = .bool x := okWide_bool Try.underlying4 hv
end
end Go.Proofs.Ytlkpgeopcdhgjaa
