/-
  The keys of a map, sorted: by the kit's contracts of maps.Keys, slices.Collect, slices.Sorted, slices.Sort.
-/
import Derived.Test.YtdcckaamepilcaaRng
import Derived.Shelf.SlIter.Nil
import Derived.Shelf.SortM.Plain
import Derived.Shelf.SortM.SortNone
import Derived.Sort.OwnSorted
import Derived.StringKeys
set_option linter.unusedVariables false
namespace Go.Eng
open Go Go.RowKit Go.Sort Go.Proofs Go.Shelf

def toL (s : ByteArray) : List UInt8 := s.data.toList
def ofL (l : List UInt8) : ByteArray := ⟨l.toArray⟩
theorem ofL_toL (s : ByteArray) : ofL (toL s) = s := by cases s; simp [ofL, toL]
theorem toL_ofL (l : List UInt8) : toL (ofL l) = l := by simp [ofL, toL]
theorem encStr_toL (s : ByteArray) : encStr (toL s) = .string s := by cases s; simp [encStr, toL]
theorem encStr_ofL (l : List UInt8) : encStr l = .string (ofL l) := rfl
/-- texts, by bytes -/
def sortB (l : List ByteArray) : List ByteArray := ((l.map toL).mergeSort (fun x y => decide (x ≤ y))).map ofL
theorem map_ofL_toL (l : List ByteArray) : (l.map toL).map ofL = l := by
  rw [List.map_map]
  conv => rhs; rw [← List.map_id l]
  exact List.map_congr_left fun x _ => ofL_toL x
theorem map_toL_ofL (l : List (List UInt8)) : (l.map ofL).map toL = l := by
  rw [List.map_map]
  conv => rhs; rw [← List.map_id l]
  exact List.map_congr_left fun x _ => toL_ofL x
theorem sortB_perm (l : List ByteArray) : (sortB l).Perm l := by
  have h := ((List.mergeSort_perm (l.map toL) (fun x y => decide (x ≤ y))).map ofL)
  rw [map_ofL_toL] at h
  exact h
theorem sortB_len (l : List ByteArray) : (sortB l).length = l.length := (sortB_perm l).length_eq
theorem sortB_sorted (l : List ByteArray) : (sortB l).Pairwise fun a b => toL a ≤ toL b := by
  have tr : ∀ a b c : List UInt8, leB a b = true → leB b c = true → leB a c = true := fun a b c h1 h2 => by simp only [leB, decide_eq_true_eq] at *; exact List.le_trans h1 h2
  have to : ∀ a b : List UInt8, (leB a b || leB b a) = true := fun a b => by simp only [leB, Bool.or_eq_true, decide_eq_true_eq]; exact List.le_total a b
  have h := List.pairwise_mergeSort tr to (l.map toL)
  refine List.pairwise_map.2 (h.imp fun {a b} hab => ?_)
  rw [toL_ofL, toL_ofL]
  simpa [leB] using hab
theorem sortB_eq {l S : List ByteArray} (hp : l.Perm S) (hs : S.Pairwise fun a b => toL a ≤ toL b) : sortB l = S := by
  refine List.Perm.eq_of_pairwise (le := fun a b => toL a ≤ toL b) (fun a b _ _ h1 h2 => ?_) (sortB_sorted l) hs ((sortB_perm l).trans hp)
  have := List.le_antisymm h1 h2
  rw [← ofL_toL a, this, ofL_toL]

section
variable {P : Program} {ρ ρk ρs : Ren}
theorem ext_of_below {w w' : World} (h : Below w.heap.size w w') : Ext w w' :=
  ⟨h.os, h.tape, h.output, by show dle _ _; unfold dle; trivial, h.size, fun k hk _ => h.block k hk⟩
theorem own_of_row {w : World} {n0 : Nat} {T : TypeId} {v : Value} {l : List (List UInt8)} {n : Nat} (hn : n = l.length) (h : w.ownsRow n0 T 1 v n (l.map encStr)) : ∃ a c, v = .slice a l.length c ∧ Own n0 w T a c (l.map ofL) := by
  subst hn
  have e : (l.map ofL).flatMap (Lies.enc (α := ByteArray)) = l.map encStr := by
    rw [List.flatMap_map]
    rw [← List.flatMap_singleton' (l.map encStr), List.flatMap_map]
    rfl
  rcases h.2 with ⟨rfl, hz⟩ | ⟨g, cap, cur, rfl, hr⟩
  · refine ⟨none, 0, by rw [hz], ?_⟩
    unfold Own
    rw [e, List.length_map]
    rw [hz] at h ⊢
    exact h
  · refine ⟨_, cap, rfl, ?_⟩
    unfold Own
    rw [e, List.length_map]
    exact h
theorem owns_map {t : TypeId} [hu : Und P t .string] {B m c : Nat} {w : World} {lb : List (ByteArray × Value × Nat)} (hm : MpB P t B w m lb c) (hsz : ∀ x ∈ lb, x.1.size ≤ maxLen) (hlen : lb.length ≤ maxLen) :
    ∃ D0 : DataW Unit, w.ownsMap P t (fun _ => some (.nil, [])) m lb.length D0 ∧ (strKeys D0).Perm (lb.map fun x => toL x.1) ∧ Maps.size D0 = lb.length := by
  obtain ⟨es, h1, h2⟩ := hm.at_
  have hrd : ∀ x ∈ lb, WideElems.rd (H := Unit) P t (fun _ => some (.nil, [])) (entM (P := P) (t := t) x) = some (.string (toL x.1), .nil) := fun x hx => by
    show WideElems.rd (H := Unit) P t (fun _ => some (.nil, [])) { key := Value.string x.1, val := x.2.1, born := x.2.2 } = _
    exact WideElems.rd_mk (WideMaps.keyOf_string_mk hu.h (hsz x hx)) (yv := ((.nil : DataW Unit), [])) rfl
  have hsize : es.size = lb.length := by rw [← Array.length_toList, h2, List.length_map]
  have hmap : es.toList.map (WideElems.rg (H := Unit) P t (fun _ => some (.nil, []))) = lb.map fun x => ((.string (toL x.1), .nil) : Lit × DataW Unit) := by
    rw [h2, List.map_map]
    exact List.map_congr_left fun x hx => WideElems.rg_of (hrd x hx)
  refine ⟨_, ⟨es, c, h1, ⟨by omega, ⟨?_, ?_, ?_⟩, ?_⟩, by omega, rfl⟩, ?_, ?_⟩
  · intro x hx
    rw [h2] at hx
    obtain ⟨y, hy, rfl⟩ := List.mem_map.1 hx
    exact hm.lt y hy
  · rw [h2, List.map_map]
    exact hm.nob
  · rw [h2, List.map_map]
    have := hm.nod
    refine List.pairwise_map.2 ((List.pairwise_map.1 this).imp fun {a b} hab e => hab ?_)
    injection e
  · intro x hx
    rw [h2] at hx
    obtain ⟨y, hy, rfl⟩ := List.mem_map.1 hx
    exact ⟨_, hrd y hy⟩
  · rw [hmap]
    show (List.map (fun (p : Lit × DataW Unit) => strOf p.1) _).Perm _
    have := (WideShapes.sorted_perm (lb.map fun x => ((.string (toL x.1), .nil) : Lit × DataW Unit))).map (fun (p : Lit × DataW Unit) => strOf p.1)
    rw [List.map_map] at this
    exact this
  · rw [hmap]
    show List.length _ = _
    rw [length_sorted, List.length_map]
/-- maps.Keys -/
theorem keys_ct (L : SlLaysZ.n7 P ρ) (w : World) (mb : Option Nat) : Ct P (ρ.f 7) #[.map mb] w fun v w' => v = .func (.func (ρ.f 10)) #[] #[.pointer (some ⟨w.heap.size, 0, none⟩)] ∧ w' = w.alloc (.cells #[.map mb] (ρ.t 23)) := by
  refine ⟨L.f7.enters rfl, (callsIn_wide (n := 6)).1 ?_⟩
  refine (AnyZ.keys_in L Fence.wide 6 trivial rfl mb w).mono ?_
  rintro e w' ⟨rfl, rfl⟩
  exact ⟨_, rfl, rfl, rfl⟩
/-- slices.Collect of a map's keys: in some order -/
theorem collect_ct (L : SlLaysZ.n8 P ρ) (LK : SlLaysZ.n7 P ρk) [hu : Und P (ρk.t 26) .string] {B m c Bm : Nat} {w : World} {lb : List (ByteArray × Value × Nat)} (hm : MpB P (ρk.t 26) B w m lb c) (hsz : ∀ x ∈ lb, x.1.size ≤ maxLen) (hlen : lb.length ≤ 1000000)
    (hB : Bm < w.heap.size) (hc : w.cell? ⟨Bm, 0, none⟩ = some (.map (some m))) :
    Ct P (ρ.f 8) #[.func (.func (ρk.f 10)) #[] #[.pointer (some ⟨Bm, 0, none⟩)]] w fun v w' => ∃ (l : List ByteArray) (a : Option Addr) (c' : Nat), v = .slice a l.length c' ∧ l.Perm (lb.map (·.1)) ∧ Own w.heap.size w' (ρ.t 26) a c' l ∧ Ext w w' := by
  have hmx : (1000000 : Nat) ≤ maxLen := by decide
  obtain ⟨D0, hown, hperm, hsize⟩ := owns_map hm hsz (by omega)
  have hseq : SeqGives Fence.wide (6 - 1 - 1) P (ρk.f 10) #[.pointer (some ⟨Bm, 0, none⟩)] encStr (fun ss => ss.Perm (strKeys D0)) (Maps.size D0) w :=
    AnyZ.keys_gives (ρ := ρk) { LK with } Fence.wide _ trivial rfl (by omega) Bm m lb.length D0 _ hB hc hown
  refine ⟨L.f8.enters rfl, (callsIn_wide (n := 6)).1 ?_⟩
  refine (AnyZ.collect_in { L with } Fence.wide 6 trivial trivial rfl (by omega) (ρk.f 10) #[.pointer (some ⟨Bm, 0, none⟩)] trivial (LK.f10.enters rfl) _ _ (by omega) (by omega) _ hseq).mono ?_
  rintro e w' ⟨v, ss, rfl, hS, hrow, _, hb⟩
  obtain ⟨a, c', rfl, ho⟩ := own_of_row rfl hrow
  refine ⟨_, rfl, ss.map ofL, a, c', by rw [List.length_map], ?_, ho, ext_of_below hb⟩
  have := (hS.trans hperm).map ofL
  rw [List.map_map] at this
  refine this.trans (List.Perm.of_eq (List.map_congr_left fun x _ => ofL_toL x.1))
theorem hs1 : Lies.sz ByteArray = 1 := rfl
theorem Own.cap_le {α : Type} [Lies α] {B c : Nat} {w : World} {T : TypeId} {a : Option Addr} {l : List α} (h : Own B w T a c l) : c ≤ maxLen := by
  rcases h.2 with ⟨h1, _⟩ | ⟨g, cap, cur, h1, _, _, _, h4, _⟩
  · injection h1 with _ _ e3
    omega
  · injection h1 with _ _ e3
    omega
/-- slices.Sort of texts that a call owns -/
theorem sort_ct (L : SlLaysM.n6 P ρ) {w : World} {B c : Nat} {T : TypeId} {a : Option Addr} {l : List ByteArray} (ho : Own B w T a c l) (hlen : l.length ≤ 1000000) :
    Ct P (ρ.f 6) #[.slice a l.length c] w fun v w' => v = .tuple #[] ∧ Own B w' T a c (sortB l) ∧ Upd (inBlock a) w w' := by
  refine ⟨L.f6.enters rfl, ?_⟩
  rcases ho.cases with ⟨rfl, rfl, rfl⟩ | ⟨g, cur, rfl, hB, hg, hle, hsz, htk⟩
  · refine (AnyM.slices_Sort_string_none L none 0 w).mono ?_
    rintro e w' ⟨rfl, rfl⟩
    exact ⟨_, rfl, rfl, (by rw [show sortB [] = [] from by simp [sortB]]; exact Own.nil _ _ _), Upd.refl _ _⟩
  · have hlt : g < w.heap.size := (Array.getElem?_eq_some_iff.1 hg).1
    have htk' : cur.toList.take l.length = l.map (fun s => Value.string s) := by
      have e : l.flatMap (Lies.enc (α := ByteArray)) = l.map (fun s => Value.string s) := by
        rw [← List.flatMap_singleton' (l.map fun s => Value.string s), List.flatMap_map]; rfl
      rw [← e, ← htk]
      show _ = cur.toList.take (l.length * 1)
      rw [Nat.mul_one]
    have hH : Holds encStr w g 0 (l.map toL).toArray := by
      intro j hj
      have hj' : j < l.length := by simpa using hj
      constructor
      · have h1 : cur[j]? = some (.string l[j]) := by
          rw [← Array.getElem?_toList, ← List.getElem?_take_of_lt hj', htk']
          simp [hj']
        rw [getElem!_pos _ j hj]
        simp only [World.cell?, Nat.zero_add, hg]
        simp [h1, encStr_toL]
      · simp [World.frozen?, hg]
    have h := AnyM.slices_Sort_string L g 0 c (l.map toL) w hH hlt (by rw [List.length_map]; omega)
    rw [List.length_map] at h
    refine Calls.mono h ?_
    rintro e w' ⟨rfl, n, os, rfl⟩
    have hlen2 : ((l.map toL).mergeSort fun x y => decide (x ≤ y)).length = (l.map toL).length := List.length_mergeSort _
    rw [hs1, Nat.mul_one] at hsz
    have hmx : c ≤ maxLen := ho.cap_le
    have hrow := ownsRow_sorted (n := n) (os := os) hlen2 hB hg (by rw [List.length_map]; exact hle) hmx (by rw [Nat.mul_one]; exact hsz)
    refine ⟨_, rfl, rfl, ?_, ?_⟩
    · have e : (sortB l).flatMap (Lies.enc (α := ByteArray)) = ((l.map toL).mergeSort fun x y => decide (x ≤ y)).map encStr := by
        unfold sortB
        rw [List.flatMap_map, ← List.flatMap_singleton' (List.map encStr _), List.flatMap_map]
        rfl
      unfold Own
      rw [e, sortB_len]
      rw [List.length_map] at hrow
      exact hrow
    · exact Upd.of_grownBy (a := some ⟨g, 0, none⟩) (grownBy_sorted _) (by simp [grow, putRow, mapBlock, Sort.ahead])

end
end Go.Eng
