/-
  What the statements of chapter 8 are asked with.
-/
import Derived.Test.YtbggmjnhfacjpaaRow
import Derived.Test.YtbggmjnhfacjpaaFix08
set_option linter.unusedVariables false
namespace Go.Proofs.Ytbggmjnhfacjpaa
open Go Go.Eng Go.RowKit
set_option maxRecDepth 20000
open Go.ChangeShapes Go.WideShapes Go.ChangeAt
theorem laidOut : laidOutB Try.prog = true := by kernel_rfl
theorem own : ownKnob Try.prog.godebug = none := by kernel_rfl
instance : Rd Try.prog 9 ByteArray := ⟨fun _ s => s.size ≤ maxLen, by kernel_rfl, fun h => by
  obtain ⟨s, rfl, _, hs⟩ := DataW.trod_string (Und.h) h
  exact ⟨s, rfl, hs⟩⟩
instance : Rd Try.prog 3 Int := ⟨fun _ n => -9223372036854775808 ≤ n ∧ n ≤ 9223372036854775807, by kernel_rfl, fun h => by
  obtain ⟨n, rfl, _, hn⟩ := DataW.trod_int (Und.h) h
  exact ⟨n, rfl, bounds_i64 hn⟩⟩
instance : Rd Try.prog 25 Part := ⟨fun _ x => x.topic.size ≤ 9223372036854775807, by kernel_rfl, fun h => by
  obtain ⟨m, x0, x1, c0, c1, rfl, h0, h1⟩ := trod_two Try.underlying25 rfl (by kernel_rfl) (by kernel_rfl) h
  obtain ⟨s, rfl, hs⟩ := (inferInstance : Rd Try.prog 9 ByteArray).down h0
  obtain ⟨n, rfl, _⟩ := (inferInstance : Rd Try.prog 3 Int).down h1
  exact ⟨⟨s, n⟩, rfl, Nat.le_trans hs (by decide)⟩⟩
instance : Rd Try.prog 53 Did := ⟨fun _ x => True, by kernel_rfl, fun h => by
  obtain ⟨m, x0, x1, x2, c0, c1, c2, rfl, h0, h1, h2⟩ := trod_three Try.underlying53 rfl (by kernel_rfl) (by kernel_rfl) (by kernel_rfl) h
  obtain ⟨a, rfl, _⟩ := (inferInstance : Rd Try.prog 3 Int).down h0
  obtain ⟨b, rfl, _⟩ := (inferInstance : Rd Try.prog 3 Int).down h1
  obtain ⟨c, rfl, _⟩ := (inferInstance : Rd Try.prog 3 Int).down h2
  exact ⟨⟨a, b, c⟩, rfl, trivial⟩⟩
theorem trod_four {P : Program} {t : TypeId} {f0 f1 f2 f3 : Field} {H : Type} {enc : TypeId × Value → H} {w : World} {base : Nat} {spare : Nat → Bool} {held : Bool} {n : Nat} {cs : List Value} {x : DataW H × List MemPlace}
    (ht : P.underlying t = some (.struct #[f0, f1, f2, f3])) (o0 : f0.offset = 0) (o1 : f1.offset = P.cellsOf f0.type) (o2 : f2.offset = P.cellsOf f0.type + P.cellsOf f1.type) (o3 : f3.offset = P.cellsOf f0.type + P.cellsOf f1.type + P.cellsOf f2.type) (hc : P.cellsOf t = P.cellsOf f0.type + P.cellsOf f1.type + P.cellsOf f2.type + P.cellsOf f3.type) (h : DataW.trod enc P w base spare held n t cs = some x) :
    ∃ m x0 x1 x2 x3 c0 c1 c2 c3, cs = c0 ++ (c1 ++ (c2 ++ c3)) ∧ DataW.trod enc P w base spare held m f0.type c0 = some x0 ∧ DataW.trod enc P w base spare held m f1.type c1 = some x1 ∧ DataW.trod enc P w base spare held m f2.type c2 = some x2 ∧ DataW.trod enc P w base spare held m f3.type c3 = some x3 := by
  obtain ⟨xs, m, _, _, hl, hxl, hf⟩ := DataW.trod_struct ht h
  have h0 := hf 0 f0 rfl
  have h1 := hf 1 f1 rfl
  have h2 := hf 2 f2 rfl
  have h3 := hf 3 f3 rfl
  rw [o0, List.drop_zero] at h0
  rw [o1] at h1
  rw [o2] at h2
  rw [o3, List.take_of_length_le (by rw [List.length_drop]; omega)] at h3
  simp only [List.size_toArray, List.length_cons, List.length_nil] at hxl
  rw [List.getElem?_eq_getElem (by omega)] at h0 h1 h2 h3
  refine ⟨m, _, _, _, _, _, _, _, _, ?_, h0, h1, h2, h3⟩
  have e : ∀ (a b : Nat), List.drop a cs = (List.drop a cs).take b ++ List.drop (a + b) cs := fun a b => by rw [← List.drop_drop, List.take_append_drop]
  rw [← e, ← e, List.take_append_drop]
theorem trod_five {P : Program} {t : TypeId} {f0 f1 f2 f3 f4 : Field} {H : Type} {enc : TypeId × Value → H} {w : World} {base : Nat} {spare : Nat → Bool} {held : Bool} {n : Nat} {cs : List Value} {x : DataW H × List MemPlace}
    (ht : P.underlying t = some (.struct #[f0, f1, f2, f3, f4])) (o0 : f0.offset = 0) (o1 : f1.offset = P.cellsOf f0.type) (o2 : f2.offset = P.cellsOf f0.type + P.cellsOf f1.type) (o3 : f3.offset = P.cellsOf f0.type + P.cellsOf f1.type + P.cellsOf f2.type) (o4 : f4.offset = P.cellsOf f0.type + P.cellsOf f1.type + P.cellsOf f2.type + P.cellsOf f3.type) (hc : P.cellsOf t = P.cellsOf f0.type + P.cellsOf f1.type + P.cellsOf f2.type + P.cellsOf f3.type + P.cellsOf f4.type) (h : DataW.trod enc P w base spare held n t cs = some x) :
    ∃ m x0 x1 x2 x3 x4 c0 c1 c2 c3 c4, cs = c0 ++ (c1 ++ (c2 ++ (c3 ++ c4))) ∧ DataW.trod enc P w base spare held m f0.type c0 = some x0 ∧ DataW.trod enc P w base spare held m f1.type c1 = some x1 ∧ DataW.trod enc P w base spare held m f2.type c2 = some x2 ∧ DataW.trod enc P w base spare held m f3.type c3 = some x3 ∧ DataW.trod enc P w base spare held m f4.type c4 = some x4 := by
  obtain ⟨xs, m, _, _, hl, hxl, hf⟩ := DataW.trod_struct ht h
  have h0 := hf 0 f0 rfl
  have h1 := hf 1 f1 rfl
  have h2 := hf 2 f2 rfl
  have h3 := hf 3 f3 rfl
  have h4 := hf 4 f4 rfl
  rw [o0, List.drop_zero] at h0
  rw [o1] at h1
  rw [o2] at h2
  rw [o3] at h3
  rw [o4, List.take_of_length_le (by rw [List.length_drop]; omega)] at h4
  simp only [List.size_toArray, List.length_cons, List.length_nil] at hxl
  rw [List.getElem?_eq_getElem (by omega)] at h0 h1 h2 h3 h4
  refine ⟨m, _, _, _, _, _, _, _, _, _, _, ?_, h0, h1, h2, h3, h4⟩
  have e : ∀ (a b : Nat), List.drop a cs = (List.drop a cs).take b ++ List.drop (a + b) cs := fun a b => by rw [← List.drop_drop, List.take_append_drop]
  rw [← e, ← e, ← e, List.take_append_drop]
instance : Rd Try.prog 79 Rec := ⟨fun _ x => True, by kernel_rfl, fun h => by
  obtain ⟨m, x0, x1, x2, x3, c0, c1, c2, c3, rfl, h0, h1, h2, h3⟩ := trod_four Try.underlying79 rfl (by kernel_rfl) (by kernel_rfl) (by kernel_rfl) (by kernel_rfl) h
  obtain ⟨a, rfl, _⟩ := DataW.trod_bool (Und.h) h0
  obtain ⟨b, rfl, _⟩ := (inferInstance : Rd Try.prog 9 ByteArray).down h1
  obtain ⟨c, rfl, _⟩ := DataW.trod_bool (Und.h) h2
  obtain ⟨d, rfl, _⟩ := (inferInstance : Rd Try.prog 9 ByteArray).down h3
  exact ⟨⟨a, b, c, d⟩, rfl, trivial⟩⟩
/-- what is known of a batch that comes in -/
def inBat (w : World) (b : Bat) : Prop := SlI w b.ra b.recs ∧ b.recs.length ≤ maxLen
instance : Rd Try.prog 28 Bat := ⟨inBat, by kernel_rfl, fun h => by
  obtain ⟨m, x0, x1, x2, x3, c0, c1, c2, c3, rfl, h0, h1, h2, h3⟩ := trod_four Try.underlying28 rfl (by kernel_rfl) (by kernel_rfl) (by kernel_rfl) (by kernel_rfl) h
  obtain ⟨a, rfl, _⟩ := (inferInstance : Rd Try.prog 3 Int).down h0
  obtain ⟨b, rfl, _⟩ := (inferInstance : Rd Try.prog 3 Int).down h1
  obtain ⟨c, rfl, _⟩ := (inferInstance : Rd Try.prog 3 Int).down h2
  obtain ⟨r, rfl, hr, _, h5, h6⟩ := trod_rows (α := Rec) (e := 79) Try.underlying26 (by decide) h3
  exact ⟨⟨a, b, c, r.a, r.c, r.l⟩, rfl, hr, Nat.le_trans h5 h6⟩⟩
/-- what is known of a call that comes in -/
def inOp (w : World) (o : DOp) : Prop := inBat w o.b ∧ o.part.topic.size ≤ 9223372036854775807
instance : Rd Try.prog 30 DOp := ⟨inOp, by kernel_rfl, fun h => by
  obtain ⟨m, x0, x1, x2, x3, x4, c0, c1, c2, c3, c4, rfl, h0, h1, h2, h3, h4⟩ := trod_five Try.underlying30 rfl (by kernel_rfl) (by kernel_rfl) (by kernel_rfl) (by kernel_rfl) (by kernel_rfl) h
  obtain ⟨a, rfl, _⟩ := (inferInstance : Rd Try.prog 3 Int).down h0
  obtain ⟨b, rfl, _⟩ := (inferInstance : Rd Try.prog 3 Int).down h1
  obtain ⟨c, rfl, _⟩ := (inferInstance : Rd Try.prog 3 Int).down h2
  obtain ⟨d, rfl, hd⟩ := (inferInstance : Rd Try.prog 25 Part).down h3
  obtain ⟨e, rfl, he⟩ := (inferInstance : Rd Try.prog 28 Bat).down h4
  exact ⟨⟨a, b, c, d, e⟩, rfl, he, hd⟩⟩
/-- what is known of a row that comes in -/
def inMk (w : World) (m : Maker) : Prop := SlI w m.la m.last ∧ m.last.length ≤ m.lc ∧ m.lc ≤ maxLen ∧ m.part.topic.size ≤ 9223372036854775807
instance : Rd Try.prog 33 Maker := ⟨inMk, by kernel_rfl, fun h => by
  obtain ⟨m, x0, x1, x2, x3, c0, c1, c2, c3, rfl, h0, h1, h2, h3⟩ := trod_four Try.underlying33 rfl (by kernel_rfl) (by kernel_rfl) (by kernel_rfl) (by kernel_rfl) h
  obtain ⟨a, rfl, _⟩ := (inferInstance : Rd Try.prog 3 Int).down h0
  obtain ⟨b, rfl, _⟩ := (inferInstance : Rd Try.prog 3 Int).down h1
  obtain ⟨d, rfl, hd⟩ := (inferInstance : Rd Try.prog 25 Part).down h2
  obtain ⟨r, rfl, hr, _, h5, h6⟩ := trod_rows (α := Did) (e := 53) Try.underlying31 (by decide) h3
  exact ⟨⟨a, b, d, r.a, r.c, r.l⟩, rfl, hr, h5, h6, hd⟩⟩
/-- two partitions, as an array holds them -/
structure Two where
  p : Part
  q : Part
instance : Lies Two := ⟨4, fun x => [.string x.p.topic, .int .i64 x.p.n, .string x.q.topic, .int .i64 x.q.n], fun _ => rfl⟩
theorem okWide_array {P : Program} {w : World} {r : Reach} {base : Nat} {t : TypeId} {v : Value} {n : Nat} {e : TypeId} (ht : P.underlying t = some (.array n e)) (h : Value.okWide P w r base t v) : ∃ cs, v = .agg cs ∧ cs.size = P.cellsOf t := by
  simp only [Value.okWide, ht] at h
  obtain ⟨cs, h1, h2, _⟩ := h
  exact ⟨cs, h1, h2⟩
section
variable {H : Type} {enc : TypeId × Value → H} {W : World} {v : Value} {d : DataW H} {p : List MemPlace} {base : Nat} {spare : Nat → Bool} {held : Bool}
theorem open_ints (hv : Value.okWide Try.prog W .any base 22 v) (h : DataW.Trod enc Try.prog W 0 spare held 22 v d p) :
    ∃ (a : Option Addr) (c : Nat) (l : List Int), v = .slice a l.length c ∧ SlI W a l ∧ l.length ≤ c ∧ c ≤ maxLen := by
  obtain ⟨a, len, cap, rfl⟩ := okWide_slice Try.underlying22 hv
  obtain ⟨n, hn⟩ := h
  obtain ⟨r, hc, hr, _, h5, h6⟩ := trod_rows (α := Int) (e := 3) Try.underlying22 (by decide) hn
  refine ⟨r.a, r.c, r.l, ?_, hr, h5, h6⟩
  simpa [Value.cells] using hc
theorem open_makers (hv : Value.okWide Try.prog W .any base 23 v) (h : DataW.Trod enc Try.prog W 0 spare held 23 v d p) :
    ∃ (a : Option Addr) (c : Nat) (l : List Maker), v = .slice a l.length c ∧ SlI W a l ∧ ∀ x ∈ l, inMk W x := by
  obtain ⟨a, len, cap, rfl⟩ := okWide_slice Try.underlying23 hv
  obtain ⟨n, hn⟩ := h
  obtain ⟨r, hc, hr, hg, _⟩ := trod_rows (α := Maker) (e := 33) Try.underlying23 (by decide) hn
  refine ⟨r.a, r.c, r.l, ?_, hr, hg⟩
  simpa [Value.cells] using hc
theorem open_ops (hv : Value.okWide Try.prog W .any base 58 v) (h : DataW.Trod enc Try.prog W 0 spare held 58 v d p) :
    ∃ (a : Option Addr) (c : Nat) (l : List DOp), v = .slice a l.length c ∧ SlI W a l ∧ ∀ x ∈ l, inOp W x := by
  obtain ⟨a, len, cap, rfl⟩ := okWide_slice Try.underlying58 hv
  obtain ⟨n, hn⟩ := h
  obtain ⟨r, hc, hr, hg, _⟩ := trod_rows (α := DOp) (e := 30) Try.underlying58 (by decide) hn
  refine ⟨r.a, r.c, r.l, ?_, hr, hg⟩
  simpa [Value.cells] using hc
theorem open_op (hv : Value.okWide Try.prog W .any base 30 v) (h : DataW.Trod enc Try.prog W 0 spare held 30 v d p) :
    ∃ x : DOp, v = .agg (Lies.enc x).toArray ∧ inOp W x := by
  obtain ⟨cs, rfl, _⟩ := okWide_struct Try.underlying30 hv
  obtain ⟨n, hn⟩ := h
  obtain ⟨x, hx, hg⟩ := (inferInstance : Rd Try.prog 30 DOp).down hn
  exact ⟨x, by congr 1; exact Array.toList_inj.1 hx, hg⟩
theorem open_int (hv : Value.okWide Try.prog W .any base 3 v) (h : DataW.Trod enc Try.prog W 0 spare held 3 v d p) :
    ∃ x : Int, v = .int .i64 x ∧ -9223372036854775808 ≤ x ∧ x ≤ 9223372036854775807 := by
  obtain ⟨k, rfl⟩ := okWide_int Try.underlying3 hv
  obtain ⟨n, hn⟩ := h
  obtain ⟨x, hx, hb⟩ := (inferInstance : Rd Try.prog 3 Int).down hn
  refine ⟨x, ?_, hb⟩
  simpa [Value.cells, Lies.enc] using hx
theorem open_two (hv : Value.okWide Try.prog W .any base 55 v) (h : DataW.Trod enc Try.prog W 0 spare held 55 v d p) :
    ∃ x : Two, v = .agg (Lies.enc x).toArray := by
  obtain ⟨cs, rfl, hsz⟩ := okWide_array Try.underlying55 hv
  obtain ⟨n, hn⟩ := h
  obtain ⟨xs, m, _, _, hl, hxl, hf⟩ := DataW.trod_array Try.underlying55 hn
  have h4 : Try.prog.cellsOf 55 = 4 := by kernel_rfl
  have h2 : Try.prog.cellsOf 25 = 2 := by kernel_rfl
  rw [h4] at hsz
  have hcl : cs.toList.length = 4 := by simpa using hsz
  have f0 := hf 0 (by decide)
  have f1 := hf 1 (by decide)
  rw [List.getElem?_eq_getElem (by omega)] at f0 f1
  obtain ⟨p0, e0, _⟩ := (inferInstance : Rd Try.prog 25 Part).down f0
  obtain ⟨p1, e1, _⟩ := (inferInstance : Rd Try.prog 25 Part).down f1
  refine ⟨⟨p0, p1⟩, ?_⟩
  congr 1
  apply Array.toList_inj.1
  rw [h2] at e0 e1
  have e : cs.toList = (cs.toList.drop (0 * 2)).take 2 ++ (cs.toList.drop (1 * 2)).take 2 := by
    rw [Nat.zero_mul, Nat.one_mul, List.drop_zero, List.take_of_length_le (l := cs.toList.drop 2) (by rw [List.length_drop]; omega), List.take_append_drop]
  rw [e]
  show _ = Lies.enc p0 ++ Lies.enc p1
  rw [← e0, ← e1]
  rfl
end
end Go.Proofs.Ytbggmjnhfacjpaa
