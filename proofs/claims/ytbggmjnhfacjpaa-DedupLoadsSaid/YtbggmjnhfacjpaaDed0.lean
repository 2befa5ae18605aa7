/-
  What a table of producers remembers, as lists in order; how a table lies in memory.
-/
import Derived.Test.YtbggmjnhfacjpaaMarks08
import Derived.Test.YtbggmjnhfacjpaaEnt
set_option linter.unusedVariables false
namespace Go.Proofs.Ytbggmjnhfacjpaa
open Go Go.Eng Go.RowKit
/-- what a table remembers: the producers' epochs, the batches of each producer and partition -/
structure Ds where
  E : List Int
  S : List Pl
def isD (E : List Int) (id : Int) : Prop := 1 ≤ id ∧ id ≤ (E.length : Int)
instance (E : List Int) (id : Int) : Decidable (isD E id) := inferInstanceAs (Decidable (_ ∧ _))
/-- a producer's epoch -/
def ep (E : List Int) (id : Int) : Int := (E[(id - 1).toNat]?).getD 0
/-- batches that may be remembered, with numbers of at most K -/
def rowK (K : Int) (l : List Did) : Prop := 1 ≤ l.length ∧ l.length ≤ 5 ∧ ∀ (i : Nat) (h : i < l.length), 0 ≤ l[i].seq ∧ 1 ≤ l[i].n ∧ l[i].seq + l[i].n ≤ K ∧ numB l[i].off ∧ (0 < i → l[i].seq = (l[i - 1]'(by omega)).seq + (l[i - 1]'(by omega)).n)
structure okD (K : Int) (M : Nat) (D : Ds) : Prop where
  len : D.E.length ≤ 32
  num : ∀ e ∈ D.E, numB e
  srt : D.S.Pairwise bfr
  id : ∀ x ∈ D.S, isD D.E x.id
  row : ∀ x ∈ D.S, rowK K x.last
  cnt : D.S.length ≤ M
def d0 : Ds := ⟨[], []⟩
theorem okD0 {K : Int} {M : Nat} : okD K M d0 := ⟨by simp [d0], by simp [d0], List.Pairwise.nil, by simp [d0], by simp [d0], by simp [d0]⟩
theorem rowK.mono {K K' : Int} {l : List Did} (h : rowK K l) (k : K ≤ K') : rowK K' l := ⟨h.1, h.2.1, fun i hi => by obtain ⟨a, b, c, d⟩ := h.2.2 i hi; exact ⟨a, b, by omega, d⟩⟩
theorem okD.mono {K K' : Int} {M M' : Nat} {D : Ds} (h : okD K M D) (k : K ≤ K') (k2 : M ≤ M') : okD K' M' D := ⟨h.len, h.num, h.srt, h.id, fun x hx => (h.row x hx).mono k, Nat.le_trans h.cnt k2⟩
theorem rowK_due {K : Int} {l : List Did} (h : rowK K l) : 0 ≤ dueL l ∧ dueL l ≤ K := by
  obtain ⟨h1, h2, h3⟩ := h
  obtain ⟨j, hj⟩ : ∃ j, j + 1 = l.length := ⟨l.length - 1, by omega⟩
  rw [dueL_last hj]
  have := h3 j (by omega)
  omega
def lastD (S : List Pl) (k : DKey) : List Did := ((eGet S k).map Pl.last).getD []
theorem lastD_none {S : List Pl} {k : DKey} (h : eGet S k = none) : lastD S k = [] := by unfold lastD; rw [h]; rfl
theorem lastD_some {S : List Pl} {k : DKey} {x : Pl} (h : eGet S k = some x) : lastD S k = x.last := by unfold lastD; rw [h]; rfl
theorem lastD_due {K : Int} {M : Nat} {D : Ds} (h : okD K M D) (hK : 0 ≤ K) (k : DKey) : 0 ≤ dueL (lastD D.S k) ∧ dueL (lastD D.S k) ≤ K := by
  cases hg : eGet D.S k with
  | none => rw [lastD_none hg, dueL_nil]; omega
  | some x => rw [lastD_some hg]; exact rowK_due (h.row x (eGet_some hg).1)
theorem lastD_len {K : Int} {M : Nat} {D : Ds} (h : okD K M D) (k : DKey) : (lastD D.S k).length ≤ 5 := by
  cases hg : eGet D.S k with
  | none => rw [lastD_none hg]; simp
  | some x => rw [lastD_some hg]; exact (h.row x (eGet_some hg).1).2.1
/-! ### rows of batches that a call owns -/
def apM (x y : Maker) : Prop := ∀ k, inBlock x.la k → ¬ inBlock y.la k
theorem apM.symm {x y : Maker} (h : apM x y) : apM y x := fun k h1 h2 => h k h2 h1
structure OwnsD (B : Nat) (w : World) (H : List Maker) : Prop where
  own : ∀ x ∈ H, Own B w 53 x.la x.lc x.last
  ap : H.Pairwise apM
section
variable {B : Nat} {w w' : World} {H : List Maker}
theorem pw_of {α : Type} {R : α → α → Prop} (hs : ∀ x y, R x y → R y x) : ∀ {l : List α}, l.Pairwise R → ∀ {x y : α}, x ∈ l → y ∈ l → x ≠ y → R x y
  | [], _, x, y, hx, _, _ => by cases hx
  | a :: l, h, x, y, hx, hy, hne => by
    obtain ⟨h1, h2⟩ := List.pairwise_cons.1 h
    rcases List.mem_cons.1 hx with hx' | hx' <;> rcases List.mem_cons.1 hy with hy' | hy'
    · exact absurd (hx'.trans hy'.symm) hne
    · subst hx'; exact h1 y hy'
    · subst hy'; exact hs _ _ (h1 x hx')
    · exact pw_of hs h2 hx' hy' hne
theorem OwnsD.nil (B : Nat) (w : World) : OwnsD B w [] := ⟨(fun x hx => by cases hx), List.Pairwise.nil⟩
theorem OwnsD.ext (h : OwnsD B w H) (k : Ext w w') : OwnsD B w' H := ⟨fun x hx => (h.own x hx).ext k, h.ap⟩
theorem OwnsD.upd {X : Nat → Prop} (h : OwnsD B w H) (k : Upd X w w') (hx : ∀ x ∈ H, ∀ j, inBlock x.la j → ¬ X j) : OwnsD B w' H := ⟨fun x hm => (h.own x hm).upd k (hx x hm), h.ap⟩
theorem OwnsD.bx {B' b : Nat} {T : TypeId} {cs : List Value} (h : OwnsD B w H) (hb : Box B' w b T cs) (hT : 53 ≠ T) (k : Upd (· = b) w w') : OwnsD B w' H :=
  h.upd k fun x hx j hj e => (h.own x hx).box_apart hb hT (e ▸ hj)
theorem OwnsD.mp {P : Program} {t : TypeId} {K : Type} [DecidableEq K] [KeyT P t K] {lb : List (K × Value × Nat)} {B' m c : Nat} (h : OwnsD B w H) (hm : MpB P t B' w m lb c) (k : Upd (· = m) w w') : OwnsD B w' H :=
  h.upd k fun x hx j hj e => hm.nea (h.own x hx) (e ▸ hj)
theorem OwnsD.ow {α : Type} [Lies α] {B' c : Nat} {T : TypeId} {a : Option Addr} {l : List α} (h : OwnsD B w H) (ho : Own B' w T a c l) (hT : 53 ≠ T) (k : Upd (inBlock a) w w') : OwnsD B w' H :=
  h.upd k fun x hx j hj e => (h.own x hx).apart ho hT hj e
theorem OwnsD.it {P : Program} {t : TypeId} {K : Type} [DecidableEq K] [KeyT P t K] {it m c : Nat} {seen : Array Nat} (h : OwnsD B w H) (hI : ItM w it m c seen) (k : Upd (· = it) w w') : OwnsD B w' H :=
  h.upd k fun x hx j hj e => hI.nea (h.own x hx) (e ▸ hj)
theorem OwnsD.mono {B' : Nat} (h : OwnsD B w H) (k : B' ≤ B) : OwnsD B' w H := ⟨fun x hx => (h.own x hx).mono k, h.ap⟩
theorem OwnsD.sub {H' : List Maker} (h : OwnsD B w H) (k : H'.Sublist H) : OwnsD B w H' := ⟨fun x hx => h.own x (k.subset hx), h.ap.sublist k⟩
theorem OwnsD.perm {H' : List Maker} (h : OwnsD B w H) (k : H'.Perm H) : OwnsD B w H' := ⟨fun x hx => h.own x (k.mem_iff.1 hx), (k.pairwise_iff (fun h => apM.symm h)).2 h.ap⟩
/-- a row of a new block beside them -/
theorem OwnsD.snoc {s : Maker} (h : OwnsD B w H) (hs : Own B w 53 s.la s.lc s.last) (ha : ∀ x ∈ H, apM x s) : OwnsD B w (H ++ [s]) := by
  refine ⟨fun x hx => ?_, ?_⟩
  · rcases List.mem_append.1 hx with hx | hx
    · exact h.own x hx
    · obtain rfl := List.mem_singleton.1 hx; exact hs
  · rw [List.pairwise_append]
    exact ⟨h.ap, by simp, fun x hx y hy => by obtain rfl := List.mem_singleton.1 hy; exact ha x hx⟩
theorem OwnsD.put {s : Maker} (hn : (H.map key).Nodup) (h : OwnsD B w H) (hs : Own B w 53 s.la s.lc s.last) (ha : ∀ x ∈ H, apM x s) : OwnsD B w (ePut H s) := by
  refine ⟨fun x hx => ?_, ?_⟩
  · rcases ePut_mem.1 hx with rfl | ⟨h1, _⟩
    · exact hs
    · exact h.own x h1
  · obtain ⟨E, hE, _, _⟩ := split3 hn s
    have h1 := (hE.pairwise_iff (fun h => apM.symm h)).1 h.ap
    have h2 : (H.filter (fun x => decide (bfr x s)) ++ H.filter (fun x => decide (bfr s x))).Pairwise apM := h1.sublist (List.Sublist.append (List.Sublist.refl _) (List.sublist_append_right _ _))
    have h3 : (s :: (H.filter (fun x => decide (bfr x s)) ++ H.filter (fun x => decide (bfr s x)))).Pairwise apM := by
      refine List.pairwise_cons.2 ⟨fun y hy => ?_, h2⟩
      rcases List.mem_append.1 hy with hy | hy
      · exact (ha y (List.mem_filter.1 hy).1).symm
      · exact (ha y (List.mem_filter.1 hy).1).symm
    refine (List.Perm.pairwise_iff (fun h => apM.symm h) ?_).1 h3
    exact (List.perm_middle (a := s) (l₁ := H.filter (fun x => decide (bfr x s))) (l₂ := H.filter (fun x => decide (bfr s x)))).symm
end
theorem ePut_eDel {V K : Type} [Keyed V K] [DecidableEq K] [KOrd K] (S : List V) (v : V) : ePut (eDel S (key v)) v = ePut S v := by
  unfold ePut eDel
  rw [List.filter_filter, List.filter_filter]
  congr 1
  · apply List.filter_congr
    intro x _
    by_cases h : bfr x v
    · simp [h, bfr_key h]
    · simp [h]
  · congr 1
    apply List.filter_congr
    intro x _
    by_cases h : bfr v x
    · simp [h, (bfr_key h).symm]
    · simp [h]
theorem eDel_keys {V K : Type} [Keyed V K] [DecidableEq K] {S : List V} (h : (S.map key).Nodup) (k : K) : ((eDel S k).map key).Nodup := List.Sublist.nodup (List.Sublist.map key (List.filter_sublist (l := S))) h
theorem eDel_pl (H : List Maker) (k : DKey) : (eDel H k).map Maker.pl = eDel (H.map Maker.pl) k := (eDel_map (fun v => key_pl v) H k).symm
theorem ePut_pl (H : List Maker) (v : Maker) : (ePut H v).map Maker.pl = ePut (H.map Maker.pl) v.pl := (ePut_map (fun v => key_pl v) H v).symm
theorem eGet_pl (H : List Maker) (k : DKey) : eGet (H.map Maker.pl) k = (eGet H k).map Maker.pl := eGet_map (fun v => key_pl v) H k
theorem box_nt {B B' b b' : Nat} {w : World} {T T' : TypeId} {cs cs' : List Value} (h : Box B w b T cs) (h' : Box B' w b' T' cs') (hT : T ≠ T') : b ≠ b' := by
  rintro rfl
  have h1 := h.at_
  rw [h'.at_] at h1
  injection h1 with h1
  injection h1 with _ h2
  exact hT h2.symm
/-! ### the table -/
/-- the blocks of a table -/
def terr (i m : Nat) (a : Option Addr) (H : List Maker) (k : Nat) : Prop := k = i ∨ k = m ∨ inBlock a k ∨ ∃ x ∈ H, inBlock x.la k
abbrev MpD (B : Nat) (w : World) (m : Nat) (lb : List (DKey × Value × Nat)) (c : Nat) : Prop := MpB Try.prog 76 B w m lb c
/-- how a table lies -/
structure Tl (B : Nat) (w : World) (i m : Nat) (a : Option Addr) (c : Nat) (E : List Int) (H : List Maker) : Prop where
  box : Box B w i 71 [.slice a E.length c, .map (some m)]
  eps : Own B w 3 a c E
  map : ∃ lb cc, MpD B w m lb cc ∧ Rep lb H
  own : OwnsD B w H
structure Tg (B : Nat) (w : World) (i : Nat) (Z : Nat → Prop) (D : Ds) : Prop where
  at_ : ∃ m a c H, Tl B w i m a c D.E H ∧ H.map Maker.pl = D.S ∧ Z = terr i m a H
section
variable {B i m c : Nat} {w w' : World} {a : Option Addr} {E : List Int} {H : List Maker} {Z : Nat → Prop} {D : Ds}
theorem Tl.ext (h : Tl B w i m a c E H) (k : Ext w w') : Tl B w' i m a c E H :=
  let ⟨lb, cc, h1, h2⟩ := h.map
  ⟨h.box.ext k, h.eps.ext k, ⟨lb, cc, h1.ext k, h2⟩, h.own.ext k⟩
theorem Tl.upd {X : Nat → Prop} (h : Tl B w i m a c E H) (k : Upd X w w') (hx : ∀ j, terr i m a H j → ¬ X j) : Tl B w' i m a c E H :=
  let ⟨lb, cc, h1, h2⟩ := h.map
  ⟨h.box.upd k (hx i (.inl rfl)), h.eps.upd k (fun j hj => hx j (.inr (.inr (.inl hj)))), ⟨lb, cc, h1.upd k (hx m (.inr (.inl rfl))), h2⟩, h.own.upd k (fun x hm j hj => hx j (.inr (.inr (.inr ⟨x, hm, hj⟩))))⟩
theorem Tl.mono {B' : Nat} (h : Tl B w i m a c E H) (k : B' ≤ B) : Tl B' w i m a c E H :=
  let ⟨lb, cc, h1, h2⟩ := h.map
  ⟨⟨Nat.le_trans k h.box.old, h.box.at_⟩, h.eps.mono k, ⟨lb, cc, h1.mono k, h2⟩, h.own.mono k⟩
/-- a table's blocks are not older than B, and are there -/
theorem Tl.old (h : Tl B w i m a c E H) {j : Nat} (hj : terr i m a H j) : B ≤ j ∧ j < w.heap.size := by
  obtain ⟨lb, cc, h1, _⟩ := h.map
  rcases hj with rfl | rfl | hj | ⟨x, hx, hj⟩
  · exact ⟨h.box.old, h.box.lt⟩
  · exact ⟨h1.old, h1.blk⟩
  · exact h.eps.blk hj
  · exact (h.own.own x hx).blk hj
/-- a block of another type is none of a table's -/
theorem Tl.nbox (h : Tl B w i m a c E H) {B' b : Nat} {T : TypeId} {cs : List Value} (hb : Box B' w b T cs) (h1 : T ≠ 71) (h2 : T ≠ 3) (h3 : T ≠ 53) : ¬ terr i m a H b := by
  obtain ⟨lb, cc, hm, _⟩ := h.map
  rintro (e | e | e | ⟨x, hx, e⟩)
  · exact box_nt hb h.box h1 e
  · exact hm.neb hb e.symm
  · exact h.eps.box_apart hb h2.symm e
  · exact (h.own.own x hx).box_apart hb h3.symm e
theorem Tl.nown {α : Type} [Lies α] (h : Tl B w i m a c E H) {B' c' : Nat} {T : TypeId} {a' : Option Addr} {l : List α} (ho : Own B' w T a' c' l) (h1 : T ≠ 71) (h2 : T ≠ 3) (h3 : T ≠ 53) : ∀ j, terr i m a H j → ¬ inBlock a' j := by
  obtain ⟨lb, cc, hm, _⟩ := h.map
  rintro j (e | e | e | ⟨x, hx, e⟩) hj
  · subst e; exact ho.box_apart h.box h1 hj
  · subst e; exact hm.nea ho hj
  · exact ho.apart h.eps h2 hj e
  · exact ho.apart (h.own.own x hx) h3 hj e
theorem Tg.ext (h : Tg B w i Z D) (k : Ext w w') : Tg B w' i Z D := let ⟨m, a, c, H, h1, h2, h3⟩ := h.at_; ⟨m, a, c, H, h1.ext k, h2, h3⟩
theorem Tg.upd {X : Nat → Prop} (h : Tg B w i Z D) (k : Upd X w w') (hx : ∀ j, Z j → ¬ X j) : Tg B w' i Z D := by
  obtain ⟨m, a, c, H, h1, h2, rfl⟩ := h.at_
  exact ⟨m, a, c, H, h1.upd k hx, h2, rfl⟩
theorem Tg.mono {B' : Nat} (h : Tg B w i Z D) (k : B' ≤ B) : Tg B' w i Z D := let ⟨m, a, c, H, h1, h2, h3⟩ := h.at_; ⟨m, a, c, H, h1.mono k, h2, h3⟩
theorem Tg.old (h : Tg B w i Z D) {j : Nat} (hj : Z j) : B ≤ j ∧ j < w.heap.size := by
  obtain ⟨m, a, c, H, h1, h2, rfl⟩ := h.at_
  exact h1.old hj
theorem Tg.nbox (h : Tg B w i Z D) {B' b : Nat} {T : TypeId} {cs : List Value} (hb : Box B' w b T cs) (h1 : T ≠ 71) (h2 : T ≠ 3) (h3 : T ≠ 53) : ¬ Z b := by
  obtain ⟨m, a, c, H, h0, _, rfl⟩ := h.at_
  exact h0.nbox hb h1 h2 h3
theorem Tg.nown {α : Type} [Lies α] (h : Tg B w i Z D) {B' c' : Nat} {T : TypeId} {a' : Option Addr} {l : List α} (ho : Own B' w T a' c' l) (h1 : T ≠ 71) (h2 : T ≠ 3) (h3 : T ≠ 53) : ∀ j, Z j → ¬ inBlock a' j := by
  obtain ⟨m, a, c, H, h0, _, rfl⟩ := h.at_
  exact h0.nown ho h1 h2 h3
/-- a store into a block of another type -/
theorem Tg.bx (h : Tg B w i Z D) {B' b : Nat} {T : TypeId} {cs : List Value} (hb : Box B' w b T cs) (h1 : T ≠ 71) (h2 : T ≠ 3) (h3 : T ≠ 53) (k : Upd (· = b) w w') : Tg B w' i Z D :=
  h.upd k (fun j hj e => h.nbox hb h1 h2 h3 (e ▸ hj))
theorem Tg.ow {α : Type} [Lies α] (h : Tg B w i Z D) {B' c' : Nat} {T : TypeId} {a' : Option Addr} {l : List α} (ho : Own B' w T a' c' l) (h1 : T ≠ 71) (h2 : T ≠ 3) (h3 : T ≠ 53) (k : Upd (inBlock a') w w') : Tg B w' i Z D :=
  h.upd k (h.nown ho h1 h2 h3)
/-- a block that a table's turn leaves alone -/
theorem box_z {B' b : Nat} {T : TypeId} {cs : List Value} (hb : Box B' w b T cs) (h : Tg B w i Z D) (h1 : T ≠ 71) (h2 : T ≠ 3) (h3 : T ≠ 53) (k : Upd Z w w') : Box B' w' b T cs := hb.upd k (h.nbox hb h1 h2 h3)
theorem own_z {α : Type} [Lies α] {B' c' : Nat} {T : TypeId} {a' : Option Addr} {l : List α} (ho : Own B' w T a' c' l) (h : Tg B w i Z D) (h1 : T ≠ 71) (h2 : T ≠ 3) (h3 : T ≠ 53) (k : Upd Z w w') : Own B' w' T a' c' l := ho.upd k (fun j hj hz => h.nown ho h1 h2 h3 j hz hj)
theorem ext_z {w0 : World} (H0 : Ext w0 w) (h : Tg B w i Z D) (hB : w0.heap.size ≤ B) (k : Upd Z w w') : Ext w0 w' := H0.upd k (fun j hj => by have := (h.old hj).1; omega)
end
/-- what a table's turn may add to its blocks -/
def Grew (Z Z' : Nat → Prop) (n : Nat) : Prop := ∀ k, Z' k → Z k ∨ n ≤ k
theorem Grew.refl (Z : Nat → Prop) (n : Nat) : Grew Z Z n := fun k h => .inl h
theorem Grew.trans {Z Z' Z'' : Nat → Prop} {n n' : Nat} (h : Grew Z Z' n) (k : Grew Z' Z'' n') (hn : n ≤ n') : Grew Z Z'' n := fun j hj => by
  rcases k j hj with h1 | h1
  · exact h j h1
  · exact .inr (by omega)
/-- blocks that are no table's -/
def Apt (Z Y : Nat → Prop) : Prop := ∀ k, Z k → ¬ Y k
theorem Apt.symm {Z Y : Nat → Prop} (h : Apt Z Y) : Apt Y Z := fun k h1 h2 => h k h2 h1
theorem Apt.grew {Z Z' Y : Nat → Prop} {n : Nat} (h : Apt Z Y) (k : Grew Z Z' n) (hy : ∀ j, Y j → j < n) : Apt Z' Y := fun j h1 h2 => by
  rcases k j h1 with h3 | h3
  · exact h j h3 h2
  · exact absurd (hy j h2) (by omega)
end Go.Proofs.Ytbggmjnhfacjpaa
