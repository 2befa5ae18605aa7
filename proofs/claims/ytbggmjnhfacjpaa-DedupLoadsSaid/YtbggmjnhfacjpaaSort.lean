/-
  slices.SortFunc of rows that a call owns: by the kit's contract.
-/
import Derived.Test.YtbggmjnhfacjpaaTab
import Derived.Test.YtbggmjnhfacjpaaGrid
import Derived.Shelf.SlSortCmp.WholeK
import Derived.Shelf.SlSortCmp.NoneTotal
set_option linter.unusedVariables false
namespace Go.Eng
open Go Go.RowKit Go.Sort Go.Proofs Go.Shelf

section
variable {α : Type} [Lies α]
theorem flatMap_at {l : List α} {i c : Nat} (hi : i < l.length) (hc : c < Lies.sz α) : (l.flatMap Lies.enc)[i * Lies.sz α + c]? = (Lies.enc l[i])[c]? := by
  rw [← flatMap_get Lies.len l i hi, List.getElem?_take, if_pos hc, List.getElem?_drop]
theorem flat_eq [Inhabited α] (hs : 0 < Lies.sz α) (d : Array α) : (flatK (Lies.enc (α := α)) (Lies.sz α) d).toList = d.toList.flatMap Lies.enc := by
  apply List.ext_getElem?
  intro t
  rcases Nat.lt_or_ge t (d.size * Lies.sz α) with h | h
  · have hq : t / Lies.sz α < d.size := (Nat.div_lt_iff_lt_mul hs).2 h
    have hr : t % Lies.sz α < Lies.sz α := Nat.mod_lt _ hs
    have e : t = t / Lies.sz α * Lies.sz α + t % Lies.sz α := by rw [Nat.mul_comm]; exact (Nat.div_add_mod t (Lies.sz α)).symm
    have h2 := flatMap_at (l := d.toList) (i := t / Lies.sz α) (c := t % Lies.sz α) (by simpa using hq) hr
    rw [← e] at h2
    rw [h2]
    have h3 := get_flatK (Lies.enc (α := α)) (Lies.sz α) d t h
    have h4 : t < (flatK (Lies.enc (α := α)) (Lies.sz α) d).size := by rw [size_flatK]; exact h
    rw [getElem!_pos _ t h4, getElem!_pos d _ hq, getElem!_pos _ _ (by rw [Lies.len]; exact hr)] at h3
    have h5 : (flatK (Lies.enc (α := α)) (Lies.sz α) d).toList[t]? = some ((flatK (Lies.enc (α := α)) (Lies.sz α) d)[t]) := by
      rw [Array.getElem?_toList]; exact Array.getElem?_eq_getElem h4
    rw [h5, h3, List.getElem?_eq_getElem (by rw [Lies.len]; exact hr)]
    rfl
  · rw [List.getElem?_eq_none (by simpa using h), List.getElem?_eq_none (by rw [flatMap_length Lies.len]; simpa using h)]
theorem own_holdsK [Inhabited α] (hs : 0 < Lies.sz α) {w : World} {g : Nat} {cur : Array Value} {T : TypeId} {l : List α} (hg : w.heap[g]? = some (.cells cur T (0, 0))) (htk : cur.toList.take (l.length * Lies.sz α) = l.flatMap Lies.enc) : HoldsK (Lies.enc (α := α)) (Lies.sz α) w g 0 l.toArray := by
  intro j hj
  have hf := flat_eq hs l.toArray
  have hsz := hj
  rw [size_flatK] at hj
  have hj' : j < l.length * Lies.sz α := by simpa using hj
  have hc : cur.toList[j]? = (flatK (Lies.enc (α := α)) (Lies.sz α) l.toArray).toList[j]? := by
    rw [hf]
    simp only
    rw [← htk, List.getElem?_take, if_pos hj']
  have hF : (flatK (Lies.enc (α := α)) (Lies.sz α) l.toArray).toList[j]? = some (flatK (Lies.enc (α := α)) (Lies.sz α) l.toArray)[j]! := by
    rw [Array.getElem?_toList, Array.getElem?_eq_getElem hsz, getElem!_pos _ j hsz]
  rw [hF, Array.getElem?_toList] at hc
  constructor
  · simp only [World.cell?, Nat.zero_add, hg]
    simpa using hc
  · simp only [World.frozen?, hg]
    simp
theorem heap_mapBlock (w : World) (g : Nat) (f : Array Value → Array Value) (k : Nat) (hk : k ≠ g) : (mapBlock w g f).heap[k]? = w.heap[k]? := by
  unfold mapBlock
  simp [Array.getElem?_modify, Ne.symm hk]
theorem heap_mapBlock_self (w : World) (g : Nat) (f : Array Value → Array Value) {cur : Array Value} {T : TypeId} {fr : Nat × Nat} (hg : w.heap[g]? = some (.cells cur T fr)) : (mapBlock w g f).heap[g]? = some (.cells (f cur) T fr) := by
  unfold mapBlock
  simp [Array.getElem?_modify, hg, onCells]
theorem sort_upd [Inhabited α] (w : World) (g n : Nat) (d : Array α) (os : Array Obj) (hlt : g < w.heap.size) : Upd (· = g) w (sortWorldK (Lies.enc (α := α)) (Lies.sz α) w g 0 n d os) := by
  refine ⟨rfl, rfl, rfl, Nat.le_add_right _ _, ?_, fun k hk hx => ?_⟩
  · simp [sortWorldK, putRowK, putRow, mapBlock, Sort.ahead]
  · unfold sortWorldK
    rw [heap_grow_old _ _ (by simpa [putRowK, putRow, mapBlock, Sort.ahead] using hk)]
    unfold putRowK putRow
    rw [heap_mapBlock _ _ _ _ hx]
    rfl
theorem sort_own [Inhabited α] (hs : 0 < Lies.sz α) {w : World} {g n B c : Nat} {T : TypeId} {l l' : List α} (os : Array Obj) (ho : Own B w T (some ⟨g, 0, none⟩) c l) (hl : l'.length = l.length) : Own B (sortWorldK (Lies.enc (α := α)) (Lies.sz α) w g 0 n l'.toArray os) T (some ⟨g, 0, none⟩) c l' := by
  rcases ho.2 with ⟨h1, _⟩ | ⟨g', cap, cur, h1, hB, hg, hle, hmx, hsz, htk⟩
  · cases h1
  · injection h1 with h1 h2 h3
    have e : g' = g := (congrArg Addr.block (Option.some.inj h1)).symm
    subst e
    subst h3
    refine ⟨flatMap_length Lies.len _, .inr ⟨g', c, putCells id 0 (flatK (Lies.enc (α := α)) (Lies.sz α) l'.toArray) cur, by rw [hl], hB, ?_, by rw [hl]; exact hle, hmx, ?_, ?_⟩⟩
    · unfold sortWorldK
      have hlt : g' < w.heap.size := (Array.getElem?_eq_some_iff.1 hg).1
      rw [heap_grow_old _ _ (by simpa [putRowK, putRow, mapBlock, Sort.ahead] using hlt)]
      exact heap_mapBlock_self (Sort.ahead w n) g' _ hg
    · simp [putCells, hsz]
    · have hf := flat_eq hs l'.toArray
      simp only at hf
      rw [← hf]
      have hF : (flatK (Lies.enc (α := α)) (Lies.sz α) l'.toArray).size = l'.length * Lies.sz α := by rw [size_flatK]; simp
      have hle2 : l'.length * Lies.sz α ≤ cur.size := by rw [hsz, hl]; exact Nat.mul_le_mul_right _ hle
      apply List.ext_getElem?
      intro t
      rw [List.getElem?_take]
      by_cases ht : t < l'.length * Lies.sz α
      · rw [if_pos ht, Array.getElem?_toList, Array.getElem?_toList]
        have htc : t < cur.size := by omega
        have htF : t < (flatK (Lies.enc (α := α)) (Lies.sz α) l'.toArray).size := by rw [hF]; exact ht
        generalize flatK (Lies.enc (α := α)) (Lies.sz α) l'.toArray = F at htF ⊢
        unfold putCells
        rw [Array.getElem?_mapIdx, Array.getElem?_eq_getElem htc, Option.map_some, if_pos ⟨Nat.zero_le _, by omega⟩, Nat.sub_zero, getElem!_pos F t htF, Array.getElem?_eq_getElem htF]
        rfl
      · rw [if_neg ht, List.getElem?_eq_none (by rw [Array.length_toList, hF]; omega)]
theorem ext_grow {w w' : World} (h : Ext w w') : ∃ q os, w' = grow (w.drewN q) os := by
  refine ⟨w'.drawn - w.drawn, w'.heap.extract w.heap.size w'.heap.size, ?_⟩
  have h1 := Upd.os h
  have h2 := Upd.tape h
  have h3 := Upd.output h
  have h4 : w.drawn ≤ w'.drawn := Upd.drawn h
  have h5 := Upd.size h
  have hh : w'.heap = w.heap ++ w'.heap.extract w.heap.size w'.heap.size := by
    apply Array.ext_getElem?
    intro k
    rw [Array.getElem?_append]
    split
    · rename_i hk
      exact Upd.block h k hk (fun f => f)
    · rename_i hk
      rw [Array.getElem?_extract]
      split
      · congr 1; omega
      · rw [Array.getElem?_eq_none (by omega)]
  cases w'
  simp only [World.drewN, grow] at *
  subst h1 h2 h3
  congr 1
  omega
/-- the row, sorted -/
theorem sort_func [Inhabited α] [h1 : One α] {P : Program} {ρ : Ren} (L : SlLaysF0.n6 P ρ) (hs : 0 < Lies.sz α) (aE : ∀ w, (isAgg (ρ.t 24)).run P w = .ok true w) (zE : ∀ w, (Go.sizeOf (ρ.t 24)).run P w = .ok (Lies.sz α) w) (cf : α → α → Int) (hO : SWO (ltOf cf)) (g : Nat) (hent : Entry P g)
    (hcmp : ∀ (W : World) (x y : α), Ct P g #[.agg (Lies.enc x).toArray, .agg (Lies.enc y).toArray] W fun v W' => v = .int .i64 (cf x y) ∧ Ext W W')
    {w : World} {B c : Nat} {T : TypeId} {a : Option Addr} {l : List α} (ho : Own B w T a c l) (hlen : l.length < 4611686018427387904) :
    Ct P (ρ.f 6) #[.slice a l.length c, .func (.func g) #[] #[]] w fun v w' => (∃ l' : List α, l'.Perm l ∧ l'.Pairwise (fun x y => ¬ cf y x < 0) ∧ Own B w' T a c l') ∧ Upd (inBlock a) w w' := by
  refine ⟨L.f6.enters rfl, ?_⟩
  rcases ho.cases with ⟨rfl, rfl, rfl⟩ | ⟨b, cur, rfl, hB, hg, hle, hsz, htk⟩
  · refine (AnyF.slices_SortFunc_none L none 0 _ w).mono ?_
    rintro e w' ⟨rfl, rfl⟩
    exact ⟨_, rfl, ⟨[], List.Perm.refl _, List.Pairwise.nil, Own.nil _ _ _⟩, Upd.refl _ _⟩
  · have hlt : b < w.heap.size := (Array.getElem?_eq_some_iff.1 hg).1
    have hC : CmpLays P g #[] (Lies.enc (α := α)) (Lies.sz α) cf b 0 l.toArray.size w := by
      intro m os dk _ x y
      have h := (hcmp (sortWorldK (Lies.enc (α := α)) (Lies.sz α) w b 0 m dk os) x y).2
      rw [Array.append_empty]
      refine Calls.mono h ?_
      rintro e w' ⟨v, rfl, rfl, hx⟩
      exact ⟨rfl, ext_grow hx⟩
    have h := AnyQ.slices_SortFunc L (Lies.sz α) aE zE (Lies.enc (α := α)) Lies.len h1.h cf hO g #[] b 0 c l.toArray w hent hC (own_holdsK hs hg htk) hlt (by simpa using hlen)
    simp only [List.size_toArray] at h
    refine Calls.mono h ?_
    rintro e w' ⟨rfl, d', n, os, hp, hsd, rfl⟩
    have hsize : d'.size = l.length := by simpa using hp.1
    have hperm : d'.toList.Perm l := by
      have := hp.2.2
      simp only [List.extract_toArray, List.extract_eq_take_drop, List.drop_zero, Nat.sub_zero] at this
      rw [List.take_of_length_le (Nat.le_refl _)] at this
      have e : d'.extract 0 l.length = d' := by rw [← hsize]; exact Array.extract_size
      rw [e] at this
      exact this
    refine ⟨_, rfl, ⟨d'.toList, hperm, ?_, ?_⟩, ?_⟩
    · rw [List.pairwise_iff_getElem]
      intro i j hi hj hij
      have := hsd i j (Nat.zero_le _) hij (by rw [← hsize]; simpa using hj)
      rw [getElem!_pos d' j (by simpa using hj), getElem!_pos d' i (by simpa using hi)] at this
      simpa [ltOf] using this
    · have := sort_own hs (n := n) (l' := d'.toList) os ho (by simpa using hsize)
      simpa using this
    · exact (sort_upd w b n d' os hlt).mono fun k _ hk => ⟨_, rfl, hk.symm⟩
end
end Go.Eng
