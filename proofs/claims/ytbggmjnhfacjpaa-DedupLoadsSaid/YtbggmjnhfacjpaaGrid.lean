/-
  Rows of rows that a call has built: each row owned, no two in one block.
-/
import Derived.Test.YtbggmjnhfacjpaaKey
import Derived.Test.YtbggmjnhfacjpaaData
set_option linter.unusedVariables false
namespace Go.Eng
open Go Go.RowKit

theorem Box.sl {α : Type} [Lies α] {B : Nat} {w : World} {b : Nat} {T : TypeId} {l : List α} (h : Box B w b T (l.flatMap Lies.enc)) : Sl w (some ⟨b, 0, none⟩) l :=
  ⟨rfl, _, T, (0, 0), h.at_, by simp, fun i hi => by simp⟩
theorem Box.sl1 {α : Type} [Lies α] {B : Nat} {w : World} {b : Nat} {T : TypeId} {x : α} (h : Box B w b T (Lies.enc x)) : Sl w (some ⟨b, 0, none⟩) [x] := by
  apply Box.sl (T := T) (B := B)
  simpa using h
theorem Own.mono {α : Type} [Lies α] {B B' : Nat} {w : World} {T : TypeId} {a : Option Addr} {c : Nat} {l : List α} (h : Own B w T a c l) (hB : B' ≤ B) : Own B' w T a c l := by
  refine ⟨h.1, ?_⟩
  rcases h.2 with hn | ⟨g, cap, cur, h1, h2, h3⟩
  · exact .inl hn
  · exact .inr ⟨g, cap, cur, h1, by omega, h3⟩
theorem Own.apart {α β : Type} [Lies α] [Lies β] {B B' : Nat} {w : World} {T T' : TypeId} {a a' : Option Addr} {c c' : Nat} {l : List α} {l' : List β} (h : Own B w T a c l) (h' : Own B' w T' a' c' l') (hT : T ≠ T') {b : Nat} (hb : inBlock a b) : ¬ inBlock a' b := by
  obtain ⟨p, rfl, rfl⟩ := hb
  rintro ⟨q, rfl, hq⟩
  rcases h.cases with ⟨h1, _⟩ | ⟨g, cur, h1, hB, hg, _⟩
  · cases h1
  · rcases h'.cases with ⟨h2, _⟩ | ⟨g', cur', h2, hB', hg', _⟩
    · cases h2
    · injection h1 with h1; injection h2 with h2
      subst h1 h2
      simp only at hq
      subst hq
      rw [hg] at hg'
      injection hg' with h3
      injection h3 with h4 h5
      exact hT h5
theorem Own.box_apart {α : Type} [Lies α] {B B' : Nat} {w : World} {T T' : TypeId} {a : Option Addr} {c b : Nat} {l : List α} {cs : List Value} (h : Own B w T a c l) (hb : Box B' w b T' cs) (hT : T ≠ T') : ¬ inBlock a b := by
  rintro ⟨q, rfl, rfl⟩
  rcases h.cases with ⟨h1, _⟩ | ⟨g, cur, h1, hB, hg, _⟩
  · cases h1
  · injection h1 with h1
    subst h1
    have := hb.at_
    rw [hg] at this
    injection this with h3
    injection h3 with h4 h5
    exact hT h5

/-- rows of rows, built by the call -/
structure GridO {α : Type} [Lies α] (T T' : TypeId) (B : Nat) (w : World) (a : Option Addr) (c : Nat) (g : List (Rw α)) : Prop where
  head : Own B w T a c g
  row : ∀ (i : Nat) (h : i < g.length), Own B w T' g[i].a g[i].c g[i].l
  apart : ∀ (i j : Nat) (hi : i < g.length) (hj : j < g.length), i ≠ j → ∀ b, inBlock g[i].a b → ¬ inBlock g[j].a b
section
variable {α : Type} [Lies α] {T T' : TypeId} {B : Nat} {w w' w'' : World} {a : Option Addr} {c : Nat} {g : List (Rw α)}
theorem GridO.ext (h : GridO T T' B w a c g) (k : Ext w w') : GridO T T' B w' a c g := ⟨h.head.ext k, fun i hi => (h.row i hi).ext k, h.apart⟩
theorem GridO.upd {X : Nat → Prop} (h : GridO T T' B w a c g) (k : Upd X w w') (h1 : ∀ b, inBlock a b → ¬ X b) (h2 : ∀ (i : Nat) (hi : i < g.length) b, inBlock g[i].a b → ¬ X b) : GridO T T' B w' a c g :=
  ⟨h.head.upd k h1, fun i hi => (h.row i hi).upd k (h2 i hi), h.apart⟩
theorem GridO.box (h : GridO T T' B w a c g) {b : Nat} {Tb B' : Nat} {cs : List Value} (hb : Box B' w b Tb cs) (k : Upd (· = b) w w') (hT : T ≠ Tb) (hT' : T' ≠ Tb) : GridO T T' B w' a c g :=
  h.upd k (fun x hx e => by subst e; exact h.head.box_apart hb hT hx) (fun i hi x hx e => by subst e; exact (h.row i hi).box_apart hb hT' hx)
/-- the header while a row grows -/
theorem GridO.head1 (h : GridO T T' B w a c g) (hT : T ≠ T') {i : Nat} (hi : i < g.length) (k : Upd (inBlock g[i].a) w w') : Own B w' T a c g :=
  h.head.upd k (fun b hb => h.head.apart (h.row i hi) hT hb)
/-- row i has grown, and its header is stored -/
theorem GridO.grow (h : GridO T T' B w a c g) (hT : T ≠ T') {i : Nat} (hi : i < g.length) (k : Upd (inBlock g[i].a) w w') {a' : Option Addr} {c' : Nat} {l' : List α} (ho : Own B w' T' a' c' l') (hfr : Fr w g[i].a a')
    (k' : Upd (inBlock a) w' w'') (hh : Own B w'' T a c (g.set i ⟨a', c', l'⟩)) : GridO T T' B w'' a c (g.set i ⟨a', c', l'⟩) := by
  have h1 := h.head1 hT hi k
  have old : ∀ (j : Nat) (hj : j < g.length) b, inBlock g[j].a b → b < w.heap.size := fun j hj b hb => ((h.row j hj).blk hb).2
  have ap : ∀ (j : Nat) (hj : j < g.length), i ≠ j → ∀ b, inBlock a' b → ¬ inBlock g[j].a b := by
    intro j hj hij b hb hb'
    rcases hfr b hb with h2 | h2
    · exact h.apart i j hi hj hij b h2 hb'
    · have := old j hj b hb'; omega
  refine ⟨hh, fun j hj => ?_, fun j n hj hn hjn b hb => ?_⟩
  · simp only [List.length_set] at hj
    rw [List.getElem_set]
    split
    · exact ho.upd k' (fun b hb => ho.apart h1 (Ne.symm hT) hb)
    · rename_i hij
      have h2 : Own B w' T' g[j].a g[j].c g[j].l := (h.row j hj).upd k (fun b hb => h.apart j i hj hi (Ne.symm hij) b hb)
      exact h2.upd k' (fun b hb => h2.apart h1 (Ne.symm hT) hb)
  · simp only [List.length_set] at hj hn
    rw [List.getElem_set] at hb ⊢
    by_cases h2 : i = j
    · subst h2
      rw [if_neg (by omega)]
      rw [if_pos rfl] at hb
      exact ap n hn hjn b hb
    · rw [if_neg h2] at hb
      by_cases h3 : i = n
      · subst h3
        rw [if_pos rfl]
        exact fun hb' => ap j hj h2 b hb' hb
      · rw [if_neg h3]
        exact h.apart j n hj hn hjn b hb
/-- a new row takes the place of row i -/
theorem GridO.put {w1 w2 : World} (h : GridO T T' B w a c g) (hT : T ≠ T') {i : Nat} (hi : i < g.length) (k : Ext w w1) {B1 : Nat} {a' : Option Addr} {c' : Nat} {l' : List α} (ho : Own B1 w1 T' a' c' l') (hB1 : w.heap.size ≤ B1) (hB : B ≤ w.heap.size)
    (k' : Upd (inBlock a) w1 w2) (hh : Own B w2 T a c (g.set i ⟨a', c', l'⟩)) : GridO T T' B w2 a c (g.set i ⟨a', c', l'⟩) := by
  have h1 := h.ext k
  have ap : ∀ (j : Nat) (hj : j < g.length) b, inBlock a' b → ¬ inBlock g[j].a b := by
    intro j hj b hb hb'
    have h2 := ((h.row j hj).blk hb').2
    have h3 := (ho.blk hb).1
    omega
  refine ⟨hh, fun j hj => ?_, fun j n hj hn hjn b hb => ?_⟩
  · simp only [List.length_set] at hj
    rw [List.getElem_set]
    split
    · exact (ho.upd k' (fun b hb => ho.apart h1.head (Ne.symm hT) hb)).mono (by omega)
    · exact (h1.row j hj).upd k' (fun b hb => (h1.row j hj).apart h1.head (Ne.symm hT) hb)
  · simp only [List.length_set] at hj hn
    rw [List.getElem_set] at hb ⊢
    by_cases h2 : i = j
    · subst h2
      rw [if_neg (by omega)]
      rw [if_pos rfl] at hb
      exact ap n hn b hb
    · rw [if_neg h2] at hb
      by_cases h3 : i = n
      · subst h3
        rw [if_pos rfl]
        exact fun hb' => ap j hj b hb' hb
      · rw [if_neg h3]
        exact h.apart j n hj hn hjn b hb
/-- a new row is appended -/
theorem GridO.push {w1 w2 : World} (h : GridO T T' B w a c g) (hT : T ≠ T') (k : Ext w w1) {B1 : Nat} {a' a2 : Option Addr} {c' c2 : Nat} {l' : List α} (ho : Own B1 w1 T' a' c' l') (hB1 : w.heap.size ≤ B1) (hB : B ≤ w.heap.size)
    (k' : Upd (inBlock a) w1 w2) (hh : Own B w2 T a2 c2 (g ++ [⟨a', c', l'⟩])) : GridO T T' B w2 a2 c2 (g ++ [⟨a', c', l'⟩]) := by
  have h1 := h.ext k
  have ap : ∀ (j : Nat) (hj : j < g.length) b, inBlock a' b → ¬ inBlock g[j].a b := by
    intro j hj b hb hb'
    have h2 := ((h.row j hj).blk hb').2
    have h3 := (ho.blk hb).1
    omega
  refine ⟨hh, fun j hj => ?_, fun j n hj hn hjn b hb => ?_⟩
  · simp only [List.length_append, List.length_cons, List.length_nil] at hj
    rw [List.getElem_append]
    split
    · rename_i hj; exact (h1.row j hj).upd k' (fun b hb => (h1.row j hj).apart h1.head (Ne.symm hT) hb)
    · rw [List.getElem_singleton]
      exact (ho.upd k' (fun b hb => ho.apart h1.head (Ne.symm hT) hb)).mono (by omega)
  · simp only [List.length_append, List.length_cons, List.length_nil] at hj hn
    rw [List.getElem_append] at hb ⊢
    split at hb
    · rename_i hj
      split
      · rename_i hn; exact h.apart j n hj hn hjn b hb
      · rw [List.getElem_singleton]; exact fun hb' => ap j hj b hb' hb
    · rw [List.getElem_singleton] at hb
      split
      · rename_i hn; exact ap n hn b hb
      · omega
theorem GridO.nil : GridO T T' B w none 0 ([] : List (Rw α)) := ⟨⟨by simp, .inl ⟨rfl, rfl⟩⟩, fun i hi => by simp at hi, fun i j hi => by simp at hi⟩
theorem GridO.nils {n : Nat} (h : Own B w T a c (List.replicate n (⟨none, 0, []⟩ : Rw α))) : GridO T T' B w a c (List.replicate n (⟨none, 0, []⟩ : Rw α)) := by
  refine ⟨h, fun i hi => ?_, fun i j hi hj hij b hb => ?_⟩
  · rw [List.getElem_replicate]; exact ⟨by simp, .inl ⟨rfl, rfl⟩⟩
  · rw [List.getElem_replicate] at hb
    obtain ⟨p, hp, _⟩ := hb
    cases hp
end
end Go.Eng
