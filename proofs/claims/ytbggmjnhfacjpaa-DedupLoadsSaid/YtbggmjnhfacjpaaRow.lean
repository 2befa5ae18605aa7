/-
  From contracts to rows: what comes in read as lists, what was there read as it was.
-/
import Derived.Test.YtbggmjnhfacjpaaData
import Derived.Test.YtbggmjnhfacjpaaRows
import Derived.WalkKit
import Derived.ProofKit
import Derived.OpenShut
import Derived.WideKeyArgs
import Derived.Carry
set_option linter.unusedVariables false
namespace Go.Eng
open Go Go.RowKit Go.ChangeShapes Go.WideShapes Go.ChangeAt

/-! ### way down -/
/-- A slice that is read, where there is anything to read. -/
def SlI {α : Type} [Lies α] (w : World) (a : Option Addr) (l : List α) : Prop := l ≠ [] → Sl w a l
/-- Values of type t read as α. -/
class Rd (P : Program) (t : TypeId) (α : Type) [Lies α] where
  good : World → α → Prop
  cells : P.cellsOf t = Lies.sz α
  down : ∀ {H : Type} {enc : TypeId × Value → H} {w : World} {base : Nat} {spare : Nat → Bool} {held : Bool} {n : Nat} {cs : List Value} {x : DataW H × List MemPlace}, DataW.trod enc P w base spare held n t cs = some x → ∃ y : α, cs = Lies.enc y ∧ good w y
theorem exists_list {α : Type} {p : Nat → α → Prop} : ∀ n : Nat, (∀ i, i < n → ∃ y, p i y) → ∃ l : List α, l.length = n ∧ ∀ (i : Nat) (h : i < l.length), p i l[i]
  | 0, _ => ⟨[], rfl, fun i h => by simp at h⟩
  | n + 1, h => by
    obtain ⟨l, hl, hp⟩ := exists_list n (fun i hi => h i (by omega))
    obtain ⟨y, hy⟩ := h n (by omega)
    refine ⟨l ++ [y], by simp [hl], fun i hi => ?_⟩
    rw [List.getElem_append]
    split
    · exact hp i _
    · rename_i h1
      have : i = n := by simp at hi; omega
      subst this
      rw [List.getElem_singleton]
      exact hy
theorem row_of_cells {w : World} {p : Addr} {cs : List Value} (hc : ∀ i, i < cs.length → w.cell? (p.add i) = cs[i]?) (h0 : 0 < cs.length) : Row w (some p) cs := by
  have hs : p.spot = none := by
    have h1 := hc 0 h0
    rw [List.getElem?_eq_getElem h0] at h1
    have h2 := World.cell?_spot h1
    simpa [Addr.add] using h2
  have hblk : ∀ i, i < cs.length → ∃ arr T fr, w.heap[p.block]? = some (.cells arr T fr) ∧ arr[p.off + i]? = cs[i]? := by
    intro i hi
    have h1 := hc i hi
    rw [List.getElem?_eq_getElem hi] at h1 ⊢
    have e : p.add i = ⟨p.block, p.off + i, none⟩ := by rw [addr_add p hs]
    rw [e] at h1
    unfold World.cell? at h1
    simp only at h1
    split at h1
    · rename_i arr T fr hb
      exact ⟨arr, T, fr, hb, h1⟩
    · cases h1
  obtain ⟨arr, T, fr, hb, _⟩ := hblk 0 h0
  refine ⟨hs, arr, T, fr, hb, ?_, fun i hi => ?_⟩
  · obtain ⟨arr', T', fr', hb', h2⟩ := hblk (cs.length - 1) (by omega)
    rw [hb] at hb'
    cases hb'
    rw [List.getElem?_eq_getElem (by omega)] at h2
    have := (Array.getElem?_eq_some_iff.1 h2).1
    omega
  · obtain ⟨arr', T', fr', hb', h2⟩ := hblk i hi
    rw [hb] at hb'
    cases hb'
    exact h2
theorem trod_rows {P : Program} {t e : TypeId} {α : Type} [Lies α] [hR : Rd P e α] {H : Type} {enc : TypeId × Value → H} {w : World} {base : Nat} {spare : Nat → Bool} {held : Bool} {n : Nat} {cs : List Value} {x : DataW H × List MemPlace}
    (ht : P.underlying t = some (.slice e)) (hs : 0 < Lies.sz α) (h : DataW.trod enc P w base spare held n t cs = some x) :
    ∃ r : Rw α, cs = [.slice r.a r.l.length r.c] ∧ SlI w r.a r.l ∧ (∀ y ∈ r.l, hR.good w y) ∧ r.l.length ≤ r.c ∧ r.c ≤ maxLen := by
  rcases DataW.trod_slice ht h with ⟨rfl, _⟩ | ⟨a, len, cap, elems, rest, m, _, rfl, _, hb, hl, hm, hlen, hel, _, _⟩
  · exact ⟨⟨none, 0, []⟩, rfl, fun h => absurd rfl h, fun y hy => by simp at hy, Nat.le_refl _, Nat.zero_le _⟩
  · obtain ⟨l, hll, hp⟩ := exists_list (p := fun i (y : α) => w.cells? base (a.add (i * P.cellsOf e)) (P.cellsOf e) = some (Lies.enc y) ∧ hR.good w y) len (fun i hi => by
      have h1 := hel i hi
      rw [List.getElem?_eq_getElem (by omega), Option.bind_eq_some_iff] at h1
      obtain ⟨cs', hcs, hy⟩ := h1
      obtain ⟨y, rfl, hg⟩ := hR.down hy
      exact ⟨y, hcs, hg⟩)
    refine ⟨⟨some a, cap, l⟩, by simp only [hll], fun hne => ?_, fun y hy => ?_, by simp only [hll]; exact hl, hm⟩
    · have hlen0 : 0 < l.length := List.length_pos_iff.2 hne
      have hfl : (l.flatMap (Lies.enc (α := α))).length = l.length * Lies.sz α := flatMap_length Lies.len l
      show Row w (some a) (l.flatMap Lies.enc)
      have hsp : a.spot = none := by
        have h1 := (hp 0 hlen0).1
        obtain ⟨_, _, h2⟩ := World.cells?_some h1
        have h3 := h2 0 (by rw [hR.cells]; exact hs)
        have h4 : 0 < (Lies.enc l[0]).length := by rw [Lies.len]; exact hs
        rw [List.getElem?_eq_getElem h4] at h3
        have h5 := World.cell?_spot h3
        simpa [Addr.add] using h5
      refine row_of_cells (fun i hi => ?_) (by rw [hfl]; exact Nat.mul_pos hlen0 hs)
      rw [hfl] at hi
      have hq : i / Lies.sz α < l.length := Nat.div_lt_of_lt_mul (by rw [Nat.mul_comm]; exact hi)
      have hr := Nat.mod_lt i hs
      have h1 := (hp _ hq).1
      obtain ⟨_, _, h2⟩ := World.cells?_some h1
      have h3 := h2 (i % Lies.sz α) (by rw [hR.cells]; exact hr)
      have e1 : i / Lies.sz α * Lies.sz α + i % Lies.sz α = i := by rw [Nat.mul_comm]; exact Nat.div_add_mod i _
      rw [hR.cells, addr_add_add a hsp, e1] at h3
      rw [h3]
      have h5 := congrArg (fun z => z[i % Lies.sz α]?) (flatMap_get (α := α) Lies.len l _ hq)
      rw [List.getElem?_take, if_pos hr, List.getElem?_drop, e1] at h5
      exact h5.symm
    · obtain ⟨i, hi, rfl⟩ := List.getElem_of_mem hy
      exact (hp i hi).2
/-- the cells of a struct of two fields -/
theorem trod_two {P : Program} {t : TypeId} {f0 f1 : Field} {H : Type} {enc : TypeId × Value → H} {w : World} {base : Nat} {spare : Nat → Bool} {held : Bool} {n : Nat} {cs : List Value} {x : DataW H × List MemPlace}
    (ht : P.underlying t = some (.struct #[f0, f1])) (o0 : f0.offset = 0) (o1 : f1.offset = P.cellsOf f0.type) (hc : P.cellsOf t = P.cellsOf f0.type + P.cellsOf f1.type) (h : DataW.trod enc P w base spare held n t cs = some x) :
    ∃ m x0 x1 c0 c1, cs = c0 ++ c1 ∧ DataW.trod enc P w base spare held m f0.type c0 = some x0 ∧ DataW.trod enc P w base spare held m f1.type c1 = some x1 := by
  obtain ⟨xs, m, _, _, hl, hxl, hf⟩ := DataW.trod_struct ht h
  have h0 := hf 0 f0 rfl
  have h1 := hf 1 f1 rfl
  rw [o0, List.drop_zero] at h0
  rw [o1, List.take_of_length_le (by rw [List.length_drop]; omega)] at h1
  simp only [List.size_toArray, List.length_cons, List.length_nil] at hxl
  rw [List.getElem?_eq_getElem (by omega)] at h0 h1
  exact ⟨m, _, _, _, _, (List.take_append_drop _ _).symm, h0, h1⟩
/-- the cells of a struct of three fields -/
theorem trod_three {P : Program} {t : TypeId} {f0 f1 f2 : Field} {H : Type} {enc : TypeId × Value → H} {w : World} {base : Nat} {spare : Nat → Bool} {held : Bool} {n : Nat} {cs : List Value} {x : DataW H × List MemPlace}
    (ht : P.underlying t = some (.struct #[f0, f1, f2])) (o0 : f0.offset = 0) (o1 : f1.offset = P.cellsOf f0.type) (o2 : f2.offset = P.cellsOf f0.type + P.cellsOf f1.type) (hc : P.cellsOf t = P.cellsOf f0.type + P.cellsOf f1.type + P.cellsOf f2.type) (h : DataW.trod enc P w base spare held n t cs = some x) :
    ∃ m x0 x1 x2 c0 c1 c2, cs = c0 ++ c1 ++ c2 ∧ DataW.trod enc P w base spare held m f0.type c0 = some x0 ∧ DataW.trod enc P w base spare held m f1.type c1 = some x1 ∧ DataW.trod enc P w base spare held m f2.type c2 = some x2 := by
  obtain ⟨xs, m, _, _, hl, hxl, hf⟩ := DataW.trod_struct ht h
  have h0 := hf 0 f0 rfl
  have h1 := hf 1 f1 rfl
  have h2 := hf 2 f2 rfl
  rw [o0, List.drop_zero] at h0
  rw [o1] at h1
  rw [o2, List.take_of_length_le (by rw [List.length_drop]; omega)] at h2
  simp only [List.size_toArray, List.length_cons, List.length_nil] at hxl
  rw [List.getElem?_eq_getElem (by omega)] at h0 h1 h2
  refine ⟨m, _, _, _, _, _, _, ?_, h0, h1, h2⟩
  rw [List.append_assoc]
  conv => lhs; rw [← List.take_append_drop (P.cellsOf f0.type) cs]
  congr 1
  conv => lhs; rw [← List.take_append_drop (P.cellsOf f1.type) (List.drop (P.cellsOf f0.type) cs)]
  rw [List.drop_drop]
/-! ### way back -/
section
variable {H : Type} {enc : TypeId × Value → H} {P : Program}
theorem trodAll_stays (hl : laidOutB P = true) {W W' : World} (hx : Ext W W') {sp : Nat → Bool} : ∀ {ts : List TypeId} {vs : List Value} {ds : List (DataW H)} {ps : List MemPlace}, (∀ t ∈ ts, P.readableRec t = true ∧ t < P.types.size) →
    DataW.TrodAll enc P W 0 (fun _ => true) true ts vs ds ps → (∀ x ∈ ps, x.block < W.heap.size) → (∀ x ∈ ps, sp x.block = true) → DataW.TrodAll enc P W' 0 sp true ts vs ds ps
  | [], [], [], _, _, h, _, _ => h
  | _ :: _, _ :: _, _ :: _, _, ht, ⟨p, q, h1, h2, e⟩, hlt, hs => by
    subst e
    refine ⟨p, q, WideElems.Trod_stays hl (ht _ (by simp)).1 (ht _ (by simp)).2 h1 (fun x hx' => hx.below.same (hlt x (by simp [hx']))) (fun x hx' => hs x (by simp [hx'])), trodAll_stays hl hx (fun t h => ht t (by simp [h])) h2 (fun x hx' => hlt x (by simp [hx'])) (fun x hx' => hs x (by simp [hx'])), rfl⟩
/-- the call has answered true, and nothing that was there has turned -/
theorem post_true {f : Func} {s : ChangeSpec} {tb : TypeId} {W W' : World} {args : Array Value} {ds gs : List (DataW H)} {before : List MemPlace} (hl : laidOutB P = true) (hrec : ∀ t ∈ f.params.toList, P.readableRec t = true ∧ t < P.types.size)
    (hrt : f.resultTypes = #[tb]) (hb : P.underlying tb = some .bool) (hsv : s.vars = []) (hW : DataW.Whole enc P f.params.toList s.vars false W args.toList ds gs before)
    (hfn : gs = [] → (s.fn H (ds ++ gs)).results = [.lit (.bool true)] ∧ (s.fn H (ds ++ gs)).args = ds ∧ (s.fn H (ds ++ gs)).vars = []) (hx : Ext W W') : s.post enc P f false true false false W args (.bool true) W' := by
  have hlt := hW.lt
  have hW' := hW
  obtain ⟨p, q, hA, hV, rfl, hfz, hnd⟩ := hW
  rw [hsv] at hV
  obtain ⟨rfl, rfl⟩ := trodVars_none hV
  obtain ⟨h1, h2, h3⟩ := hfn rfl
  refine ⟨ds, [], p ++ [], [], p, [], hW', ?_, ?_, ?_, hx.below.frame _, fun h => by cases h⟩
  · rw [h1, hrt]
    exact trodAll_mk1 (shut_bool hb true)
  · rw [h2]
    exact trodAll_stays hl hx hrec hA (fun x h => hlt x (by simp [h])) (fun x h => by simpa using hlt x (by simp [h]))
  · rw [h3, hsv]
    rfl
end
end Go.Eng
