/-
  Cut: walks and laws, written by gen/gen.py out of gen/thy/Cut.py.
-/
import Derived.Test.YtoebejfffakjpaaTwo
import Derived.Test.YtoebejfffakjpaaSlc
import Derived.Test.YtoebejfffakjpaaRow
set_option linter.unusedVariables false
namespace Go.Proofs.Ytoebejfffakjpaa
open Go Go.Eng Go.RowKit
theorem own_le {α : Type} [Lies α] {B : Nat} {w : World} {T : TypeId} {a : Option Addr} {c : Nat} {l : List α} (h : Own B w T a c l) : l.length ≤ c := by
  rcases h.cases with ⟨_, rfl, rfl⟩ | ⟨g, cur, _, _, _, h, _⟩
  · simp
  · exact h
theorem hdrM {m : Mem} {q : Addr} (hq : m.ta = some q) : (Lies.enc m)[1]? = some (.slice (some q) m.topics.length m.tc) := by
  show some (Value.slice m.ta m.topics.length m.tc) = _
  rw [hq]
theorem cut_size (s : ByteArray) (n : Nat) : (s.extract 0 (min s.size n)).size ≤ n := by
  rw [ByteArray.size_extract]; omega
/-- members, whose topics are the call's own -/
def MemO (B : Nat) (w : World) (M : List Mem) : Prop := ∀ x ∈ M, Own B w 9 x.ta x.tc x.topics ∧ x.topics.length ≤ 10 ∧ x.name.size ≤ 40
theorem MemO.ext {B : Nat} {w w' : World} {M : List Mem} (h : MemO B w M) (k : Ext w w') : MemO B w' M := fun x hx => ⟨(h x hx).1.ext k, (h x hx).2⟩
theorem MemO.own {α : Type} [Lies α] {B B' : Nat} {w w' : World} {M : List Mem} {T : TypeId} {a : Option Addr} {c : Nat} {l : List α} (h : MemO B w M) (ho : Own B' w T a c l) (hT : 9 ≠ T) (k : Upd (inBlock a) w w') : MemO B w' M :=
  fun x hx => ⟨(h x hx).1.upd k (fun y hy => (h x hx).1.apart ho hT hy), (h x hx).2⟩
theorem MemO.box {B B' : Nat} {w w' : World} {M : List Mem} {T : TypeId} {b : Nat} {cs : List Value} (h : MemO B w M) (ho : Box B' w b T cs) (hT : 9 ≠ T) (k : Upd (· = b) w w') : MemO B w' M :=
  fun x hx => ⟨(h x hx).1.upd k (fun y hy e => by subst e; exact (h x hx).1.box_apart ho hT hy), (h x hx).2⟩
theorem own_own {α β : Type} [Lies α] [Lies β] {B B' : Nat} {w w' : World} {T T' : TypeId} {a a' : Option Addr} {c c' : Nat} {l : List α} {l' : List β} (h : Own B w T a c l) (ho : Own B' w T' a' c' l') (hT : T ≠ T') (k : Upd (inBlock a') w w') : Own B w' T a c l := h.upd k (fun y hy => h.apart ho hT hy)
theorem own_box {α : Type} [Lies α] {B B' : Nat} {w w' : World} {T T' : TypeId} {a : Option Addr} {c b : Nat} {l : List α} {cs : List Value} (h : Own B w T a c l) (ho : Box B' w b T' cs) (hT : T ≠ T') (k : Upd (· = b) w w') : Own B w' T a c l := h.upd k (fun y hy e => by subst e; exact h.box_apart ho hT hy)
theorem box_own {α : Type} [Lies α] {B B' : Nat} {w w' : World} {T T' : TypeId} {a : Option Addr} {c b : Nat} {l : List α} {cs : List Value} (ho : Box B' w b T' cs) (h : Own B w T a c l) (hT : T ≠ T') (k : Upd (inBlock a) w w') : Box B' w' b T' cs := ho.upd k (fun y => h.box_apart ho hT y)
/-- what a statement asks with -/
structure Asked (B : Nat) (w : World) (a : Option Addr) (c : Nat) (l : List Topic) (b : Option Addr) (d : Nat) (m : List Mem) : Prop where
  ol : Own B w 46 a c l
  om : Own B w 40 b d m
  ot : MemO B w m
  ln : l.length ≤ 10
  mn : m.length ≤ 10
theorem Asked.ext {B : Nat} {w w' : World} {a b : Option Addr} {c d : Nat} {l : List Topic} {m : List Mem} (h : Asked B w a c l b d m) (k : Ext w w') : Asked B w' a c l b d m := ⟨h.ol.ext k, h.om.ext k, h.ot.ext k, h.ln, h.mn⟩
theorem Asked.mono {B B' : Nat} {w : World} {a b : Option Addr} {c d : Nat} {l : List Topic} {m : List Mem} (h : Asked B w a c l b d m) (k : B' ≤ B) : Asked B' w a c l b d m := ⟨h.ol.mono k, h.om.mono k, fun x hx => ⟨(h.ot x hx).1.mono k, (h.ot x hx).2⟩, h.ln, h.mn⟩
theorem Asked.box {B B' : Nat} {w w' : World} {a b : Option Addr} {c d i : Nat} {T : TypeId} {cs : List Value} {l : List Topic} {m : List Mem} (h : Asked B w a c l b d m) (hb : Box B' w i T cs) (h1 : 46 ≠ T) (h2 : 40 ≠ T) (h3 : 9 ≠ T) (k : Upd (· = i) w w') : Asked B w' a c l b d m :=
  ⟨own_box h.ol hb h1 k, own_box h.om hb h2 k, h.ot.box hb h3 k, h.ln, h.mn⟩
section
variable {B : Nat} {w : World} {a b : Option Addr} {c d : Nat} {l : List Topic} {m : List Mem}
theorem Asked.ts (h : Asked B w a c l b d m) : ∀ x ∈ m, Sl w x.ta x.topics ∧ x.topics.length ≤ 1000 := fun x hx => ⟨(h.ot x hx).1.sl, by have := (h.ot x hx).2.1; omega⟩
theorem Asked.sz (h : Asked B w a c l b d m) : ∀ x ∈ m, x.name.size ≤ 40 := fun x hx => (h.ot x hx).2.2
end
set_option maxRecDepth 20000 in
set_option maxHeartbeats 1600000 in
theorem lCut (w0 : World) (a b : Option Addr) (c d : Nat) (l : List Topic) (m : List Mem) (hl : SlI w0 a l) (hm : SlI w0 b m) (hts : ∀ x ∈ m, SlI w0 x.ta x.topics) :
    Ct Try.prog 9 #[.agg [.slice a l.length c, .slice b m.length d].toArray] w0 fun v w' => (∃ a1 c1 l1 b1 d1 m1, v = .agg [.slice a1 l1.length c1, .slice b1 m1.length d1].toArray ∧ Asked w0.heap.size w' a1 c1 l1 b1 d1 m1) ∧ Ext w0 w' := by
  refine Ct.introC Try.func9 Try.ntmps9 rfl rfl (by decide) rfl ?_
  have H : Ext w0 w0 := Ext.refl w0
  refine WP.regionS ?_
  refine RL.boxS w0.heap.size H.size rfl rfl ?_
  intro w1 i1 hi1 hx hb1
  replace H := H.ext hx; clear hx
  refine RL.alloc w0.heap.size H.size rfl rfl ?_
  intro w2 i2 hi2 hx hb2
  have ne1_2 := hb1.ne hi2
  replace H := H.ext hx; replace hb1 := hb1.ext hx; clear hx
  refine RL.nil ?_
  refine WP.regionS ?_
  refine RL.r (bld rfl rfl) rfl ?_
  refine RL.alloc w0.heap.size H.size rfl rfl ?_
  intro w3 i3 hi3 hx hb3
  have ne1_3 := hb1.ne hi3
  have ne2_3 := hb2.ne hi3
  refine RL.storeS rfl hb3 rfl rfl rfl rfl ?_
  intro w4 hu hb3
  replace hx := hx.box hu (Nat.le_of_eq hi3.symm)
  replace H := H.ext hx; replace hb1 := hb1.ext hx; replace hb2 := hb2.ext hx; clear hx hu
  refine RL.nil ?_
  refine WP.seq ?_
  refine WP.regionS ?_
  refine RL.r (asgI rfl) rfl ?_
  refine RL.nil ?_
  refine WP.block ?_
  refine WP.loop (fun k e' w' => ∃ j : Nat, ∃ (a1 : Option Addr) (c1 : Nat) (L1 : List Topic) (b1 : Option Addr) (d1 : Nat) (M1 : List Mem),  j + k = min l.length 10 ∧ Head [4, 9, 10, 11, 12, 13, 14, 15, 16, 17, 18, 19, 20, 21, 22, 23, 24, 25, 26, 27, 28, 29, 30, 31, 32, 33, 34, 35, 36, 37, 38, 39, 40, 41, 42, 43, 44, 45, 46] _ [(4, .int .i64 (j : Int))] e' ∧ Ext w0 w' ∧ Box w0.heap.size w' i1 25 [.slice a l.length c, .slice b m.length d] ∧ Box w0.heap.size w' i2 25 [.slice none 0 0, .slice none 0 0] ∧ Box w0.heap.size w' i3 25 [.slice a1 L1.length c1, .slice b1 M1.length d1] ∧ Own w0.heap.size w' 46 a1 c1 L1 ∧ L1.length ≤ j ∧ b1 = none ∧ d1 = 0 ∧ M1 = []) (min l.length 10)
    ⟨0, none, 0, [], none, 0, [], by omega, Head.intro (AgreeOff.refl _ _) ⟨rfl, trivial⟩, H, hb1, hb2, hb3, Own.nil _ _ _, Nat.le_refl _, rfl, rfl, rfl⟩ ?_
  clear H hb1 hb2 hb3
  rintro k e w5 ⟨j, a1, c1, L1, b1, d1, M1, hjk, ⟨jk, rfl⟩, H, hb1, hb2, hb3, hL, hLl, rfl, rfl, rfl⟩
  refine WP.seq ?_
  refine WP.seq (WP.quiet ?_)
  refine QL.r (mvI rfl) rfl ?_
  refine QL.r (fa_box rfl) rfl ?_
  refine QL.m (ld_box rfl hb1 rfl) rfl ?_
  refine QL.r (len_sl rfl) rfl ?_
  refine QL.r (lss rfl rfl) rfl ?_
  refine QL.r (mvB rfl) rfl ?_
  refine QL.gg (gwT rfl rfl) (fun hg => (mvI rfl).does _) rfl ?_
  refine QL.gg (gwT rfl rfl) (fun hg => (lss (gs hg rfl) rfl).does _) rfl ?_
  refine QL.r (pickAnd rfl (fun hn => gs hn rfl)) rfl ?_
  refine QL.nil ?_; intro w6 hx; replace H := H.ext hx; replace hb1 := hb1.ext hx; replace hb2 := hb2.ext hx; replace hb3 := hb3.ext hx; replace hL := hL.ext hx
  refine WP.cond rfl (fun hc => ?_) (fun hc => ?_)
  · refine WP.skip ?_
    refine WP.seq ?_
    refine WP.block ?_
    refine WP.any ?_
    intro w7 hx; replace H := H.ext hx; replace hb1 := hb1.ext hx; replace hb2 := hb2.ext hx; replace hb3 := hb3.ext hx; replace hL := hL.ext hx
    refine AL.p 0 (by kernel_rfl) rfl (fa_box rfl) rfl ?_
    refine AL.p 2 (by kernel_rfl) rfl (fa_box rfl) rfl ?_
    refine AL.p 4 (by kernel_rfl) rfl (mvI rfl) rfl ?_
    refine AL.p 8 (by kernel_rfl) rfl (fa_box rfl) rfl ?_
    refine AL.p 10 (by kernel_rfl) rfl (mvI rfl) rfl ?_
    refine AL.p 17 (by kernel_rfl) rfl (fa_box rfl) rfl ?_
    refine AL.p 19 (by kernel_rfl) rfl (mvI rfl) rfl ?_
    refine AL.m 1 (by kernel_rfl) rfl (ld_box rfl hb3 rfl) rfl ?_
    refine AL.m 3 (by kernel_rfl) rfl (ld_box rfl hb1 rfl) rfl ?_
    have hj : j < l.length := by omega
    have hl := hl (List.ne_nil_of_length_pos (by omega))
    obtain ⟨p, rfl⟩ := hl.isAddr (by decide) hj
    refine AL.p 5 (by kernel_rfl) rfl (ix rfl rfl rfl (by omega)) rfl ?_
    refine AL.p 6 (by kernel_rfl) rfl (fa_el hl.1 rfl) rfl ?_
    refine AL.m 7 (by kernel_rfl) rfl (ld_el rfl hl H rfl (by omega) rfl) rfl ?_
    refine AL.m 9 (by kernel_rfl) rfl (ld_box rfl hb1 rfl) rfl ?_
    refine AL.p 11 (by kernel_rfl) rfl (ix rfl rfl rfl (by omega)) rfl ?_
    refine AL.p 12 (by kernel_rfl) rfl (fa_el hl.1 rfl) rfl ?_
    refine AL.m 13 (by kernel_rfl) rfl (ld_el rfl hl H rfl (by omega) rfl) rfl ?_
    refine AL.p 14 (by kernel_rfl) rfl (len_str rfl) rfl ?_
    refine AL.p 15 (by kernel_rfl) rfl (min_i rfl rfl) rfl ?_
    refine AL.p 16 (by kernel_rfl) rfl (slcS (n := min l[j].name.size 40) rfl rfl (by omega) (by omega)) rfl ?_
    refine AL.m 18 (by kernel_rfl) rfl (ld_box rfl hb1 rfl) rfl ?_
    refine AL.p 20 (by kernel_rfl) rfl (ix rfl rfl rfl (by omega)) rfl ?_
    refine AL.p 21 (by kernel_rfl) rfl (fa_el hl.1 rfl) rfl ?_
    refine AL.m 22 (by kernel_rfl) rfl (ld_el rfl hl H rfl (by omega) rfl) rfl ?_
    refine AL.p 23 (by kernel_rfl) rfl (bld rfl rfl) rfl ?_
    refine AL.o 24 (by kernel_rfl) rfl ?_
    refine RL.buildSlice w0.heap.size H.size rfl rfl rfl rfl rfl ?_
    intro w8 i44 hi44 hx hb44
    replace H := H.ext hx; replace hb1 := hb1.ext hx; replace hb2 := hb2.ext hx; replace hb3 := hb3.ext hx; replace hL := hL.ext hx; clear hx
    refine RL.nil ?_
    refine AL.o 25 (by kernel_rfl) rfl ?_
    refine RL.appendS rfl hL H.size rfl (show Sl _ _ [(⟨l[j].name.extract 0 (min l[j].name.size 40), l[j].n⟩ : Topic)] from Box.sl1 hb44) rfl rfl (by decide) rfl cell1 (by omega) (by simp only [maxLen]; omega) rfl ?_
    intro w9 a45 c45 hu hb45 hfr45
    replace hb1 := box_own hb1 hL (by decide) hu
    replace hb2 := box_own hb2 hL (by decide) hu
    replace hb3 := box_own hb3 hL (by decide) hu
    replace H := Ext.own H hL hu; clear hu
    have hb3o := hb3
    refine RL.nil ?_
    refine AL.p 26 (by kernel_rfl) rfl (fa_box rfl) rfl ?_
    refine AL.o 27 (by kernel_rfl) rfl ?_
    refine RL.store1 rfl hb3 rfl rfl rfl rfl ?_
    intro w10 hu hb3
    replace H := H.box hu hb3.old; replace hb1 := hb1.upd hu ne1_3; replace hb2 := hb2.upd hu ne2_3
    refine RL.nil ?_
    refine AL.nil (by kernel_rfl) ?_
    refine WP.region ?_
    refine RL.r (mvI rfl) rfl ?_
    refine RL.r (add rfl rfl (by omega)) rfl ?_
    refine RL.r (asgI rfl) rfl ?_
    refine RL.nil ?_
    replace hb45 := own_box hb45 hb3o (by decide) hu
    refine ⟨k - 1, by omega, j + 1, _, _, _, none, 0, [], by omega, Head.intro (by repeat (first | with_reducible exact AgreeOff.mix _ _ _ | refine AgreeOff.look rfl ?_ | refine AgreeOff.mixs rfl ?_)) ⟨rfl, trivial⟩, H, hb1, hb2, hb3, hb45, by rw [List.length_append]; simp only [List.length_cons, List.length_nil]; omega, rfl, rfl, rfl⟩
  · refine WP.exit ?_
    refine WP.seq ?_
    refine WP.regionS ?_
    refine RL.r (asgI rfl) rfl ?_
    refine RL.nil ?_
    refine WP.block ?_
    refine WP.loop (fun k1 e' w' => ∃ j1 : Nat, ∃ (a1 : Option Addr) (c1 : Nat) (L1 : List Topic) (b1 : Option Addr) (d1 : Nat) (M1 : List Mem),  j1 + k1 = min m.length 10 ∧ Head [5, 6, 7, 47, 48, 49, 50, 51, 52, 53, 54, 55, 56, 57, 58, 59, 60, 61, 62, 63, 64, 65, 66, 67, 68, 69, 70, 71, 72, 73, 74, 75, 76, 77, 78, 79, 80, 81, 82, 83, 84, 85, 86, 87, 88, 89, 90, 91, 92, 93, 94, 95, 96, 97, 98, 99, 100, 101, 102, 103, 104, 105, 106, 107, 108, 109, 110, 111, 112, 113, 114, 115, 116, 117, 118, 119, 120] _ [(5, .int .i64 (j1 : Int))] e' ∧ Ext w0 w' ∧ Box w0.heap.size w' i1 25 [.slice a l.length c, .slice b m.length d] ∧ Box w0.heap.size w' i2 25 [.slice none 0 0, .slice none 0 0] ∧ Box w0.heap.size w' i3 25 [.slice a1 L1.length c1, .slice b1 M1.length d1] ∧ Own w0.heap.size w' 46 a1 c1 L1 ∧ L1.length ≤ 10 ∧ Own w0.heap.size w' 40 b1 d1 M1 ∧ M1.length ≤ j1 ∧ MemO w0.heap.size w' M1) (min m.length 10)
      ⟨0, a1, c1, L1, none, 0, [], by omega, Head.intro (AgreeOff.refl _ _) ⟨rfl, trivial⟩, H, hb1, hb2, hb3, hL, by omega, Own.nil _ _ _, Nat.le_refl _, fun x hx => by simp at hx⟩ ?_
    clear H hb1 hb2 hb3 hL
    rintro k1 e w11 ⟨j1, a1, c1, L1, b1, d1, M1, hjk1, ⟨jk1, rfl⟩, H, hb1, hb2, hb3, hL, hLl, hM, hMl, hMt⟩
    have H0 := H; have H11 := Ext.refl w11; have hb2h := hb2; have hs11 := H.size
    refine WP.seq ?_
    refine WP.seq (WP.quiet ?_)
    refine QL.r (mvI rfl) rfl ?_
    refine QL.r (fa_box rfl) rfl ?_
    refine QL.m (ld_box rfl hb1 rfl) rfl ?_
    refine QL.r (len_sl rfl) rfl ?_
    refine QL.r (lss rfl rfl) rfl ?_
    refine QL.r (mvB rfl) rfl ?_
    refine QL.gg (gwT rfl rfl) (fun hg => (mvI rfl).does _) rfl ?_
    refine QL.gg (gwT rfl rfl) (fun hg => (lss (gs hg rfl) rfl).does _) rfl ?_
    refine QL.r (pickAnd rfl (fun hn => gs hn rfl)) rfl ?_
    refine QL.nil ?_; intro w12 hx; replace H := H.ext hx; replace hb1 := hb1.ext hx; replace hb2 := hb2.ext hx; replace hb3 := hb3.ext hx; replace H11 := H11.ext hx
    refine WP.cond rfl (fun hc => ?_) (fun hc => ?_)
    · refine WP.skip ?_
      refine WP.seq ?_
      refine WP.block ?_
      refine WP.seq ?_
      refine WP.any ?_
      intro w13 hx; replace H := H.ext hx; replace hb1 := hb1.ext hx; replace hb2 := hb2.ext hx; replace hb3 := hb3.ext hx; replace H11 := H11.ext hx
      refine AL.p 0 (by kernel_rfl) rfl (fa_box rfl) rfl ?_
      refine AL.p 2 (by kernel_rfl) rfl (mvI rfl) rfl ?_
      refine AL.p 6 (by kernel_rfl) rfl (fa_box rfl) rfl ?_
      refine AL.p 8 (by kernel_rfl) rfl (mvI rfl) rfl ?_
      refine AL.m 1 (by kernel_rfl) rfl (ld_box rfl hb1 rfl) rfl ?_
      have hj1 : j1 < m.length := by omega
      have hm := hm (List.ne_nil_of_length_pos (by omega))
      obtain ⟨p, rfl⟩ := hm.isAddr (by decide) hj1
      refine AL.p 3 (by kernel_rfl) rfl (ix rfl rfl rfl (by omega)) rfl ?_
      refine AL.p 4 (by kernel_rfl) rfl (fa_el hm.1 rfl) rfl ?_
      refine AL.m 5 (by kernel_rfl) rfl (ld_el rfl hm H rfl (by omega) rfl) rfl ?_
      refine AL.m 7 (by kernel_rfl) rfl (ld_box rfl hb1 rfl) rfl ?_
      refine AL.p 9 (by kernel_rfl) rfl (ix rfl rfl rfl (by omega)) rfl ?_
      refine AL.p 10 (by kernel_rfl) rfl (fa_el hm.1 rfl) rfl ?_
      refine AL.m 11 (by kernel_rfl) rfl (ld_el rfl hm H rfl (by omega) rfl) rfl ?_
      refine AL.p 12 (by kernel_rfl) rfl (len_str rfl) rfl ?_
      refine AL.p 13 (by kernel_rfl) rfl (min_i rfl rfl) rfl ?_
      have hs13 := H11.size
      refine AL.p 14 (by kernel_rfl) rfl (slcS (n := min m[j1].name.size 40) rfl rfl (by omega) (by omega)) rfl ?_
      refine AL.p 15 (by kernel_rfl) rfl (bld rfl rfl) rfl ?_
      refine AL.o 16 (by kernel_rfl) rfl ?_
      refine RL.alloc w0.heap.size H.size rfl rfl ?_
      intro w14 i6 hi6 hx hb6
      have ne1_6 := hb1.ne hi6
      have ne2_6 := hb2.ne hi6
      have ne3_6 := hb3.ne hi6
      refine RL.nil ?_
      refine AL.o 17 (by kernel_rfl) rfl ?_
      refine RL.storeS rfl hb6 rfl rfl rfl rfl ?_
      intro w15 hu hb6
      replace hx := hx.box hu (Nat.le_of_eq hi6.symm)
      replace H := H.ext hx; replace hb1 := hb1.ext hx; replace hb2 := hb2.ext hx; replace hb3 := hb3.ext hx; replace H11 := H11.ext hx; clear hx hu
      refine RL.nil ?_
      refine AL.nil (by kernel_rfl) ?_
      refine WP.seq ?_
      refine WP.regionS ?_
      refine RL.r (asgI rfl) rfl ?_
      refine RL.nil ?_
      refine WP.block ?_
      have hi6o : w11.heap.size ≤ i6 := by omega
      refine WP.loop (fun k2 e' w' => ∃ j2 : Nat, ∃ (nm6 : ByteArray) (a6 : Option Addr) (c6 : Nat) (T6 : List ByteArray),  j2 + k2 = min m[j1].topics.length 10 ∧ Head [7, 74, 75, 76, 77, 78, 79, 80, 81, 82, 83, 84, 85, 86, 87, 88, 89, 90, 91, 92, 93, 94, 95, 96, 97, 98, 99, 100, 101, 102, 103, 104, 105, 106, 107, 108, 109, 110, 111, 112, 113, 114] _ [(7, .int .i64 (j2 : Int))] e' ∧ Ext w0 w' ∧ Box w0.heap.size w' i1 25 [.slice a l.length c, .slice (some p) m.length d] ∧ Box w0.heap.size w' i2 25 [.slice none 0 0, .slice none 0 0] ∧ Box w0.heap.size w' i3 25 [.slice a1 L1.length c1, .slice b1 M1.length d1] ∧ Ext w11 w' ∧ Box w0.heap.size w' i6 40 [.string nm6, .slice a6 T6.length c6] ∧ Own w11.heap.size w' 9 a6 c6 T6 ∧ T6.length ≤ j2 ∧ nm6.size ≤ 40) (min m[j1].topics.length 10)
        ⟨0, _, none, 0, [], by omega, Head.intro (AgreeOff.refl _ _) ⟨rfl, trivial⟩, H, hb1, hb2, hb3, H11, hb6, Own.nil _ _ _, Nat.le_refl _, cut_size _ _⟩ ?_
      clear H hb1 hb2 hb3 H11 hb6
      rintro k2 e w16 ⟨j2, nm6, a6, c6, T6, hjk2, ⟨jk2, rfl⟩, H, hb1, hb2, hb3, H11, hb6, hT, hTl, hnm⟩
      refine WP.seq ?_
      refine WP.seq (WP.quiet ?_)
      refine QL.r (mvI rfl) rfl ?_
      refine QL.r (fa_box rfl) rfl ?_
      refine QL.m (ld_box rfl hb1 rfl) rfl ?_
      refine QL.r (mvI rfl) rfl ?_
      refine QL.r (ix rfl rfl rfl hj1) rfl ?_
      refine QL.r (fa_el hm.1 rfl) rfl ?_
      refine QL.m (ld_el rfl hm H rfl hj1 rfl) rfl ?_
      refine QL.r (len_sl rfl) rfl ?_
      refine QL.r (lss rfl rfl) rfl ?_
      refine QL.r (mvB rfl) rfl ?_
      refine QL.gg (gwT rfl rfl) (fun hg => (mvI rfl).does _) rfl ?_
      refine QL.gg (gwT rfl rfl) (fun hg => (lss (gs hg rfl) rfl).does _) rfl ?_
      refine QL.r (pickAnd rfl (fun hn => gs hn rfl)) rfl ?_
      refine QL.nil ?_; intro w17 hx; replace H := H.ext hx; replace hb1 := hb1.ext hx; replace hb2 := hb2.ext hx; replace hb3 := hb3.ext hx; replace H11 := H11.ext hx; replace hb6 := hb6.ext hx; replace hT := hT.ext hx
      refine WP.cond rfl (fun hc => ?_) (fun hc => ?_)
      · refine WP.skip ?_
        refine WP.seq ?_
        refine WP.block ?_
        refine WP.any ?_
        intro w18 hx; replace H := H.ext hx; replace hb1 := hb1.ext hx; replace hb2 := hb2.ext hx; replace hb3 := hb3.ext hx; replace H11 := H11.ext hx; replace hb6 := hb6.ext hx; replace hT := hT.ext hx
        refine AL.p 0 (by kernel_rfl) rfl (fa_box rfl) rfl ?_
        refine AL.p 2 (by kernel_rfl) rfl (fa_box rfl) rfl ?_
        refine AL.p 4 (by kernel_rfl) rfl (mvI rfl) rfl ?_
        refine AL.p 8 (by kernel_rfl) rfl (mvI rfl) rfl ?_
        refine AL.p 11 (by kernel_rfl) rfl (fa_box rfl) rfl ?_
        refine AL.p 13 (by kernel_rfl) rfl (mvI rfl) rfl ?_
        refine AL.p 17 (by kernel_rfl) rfl (mvI rfl) rfl ?_
        refine AL.m 1 (by kernel_rfl) rfl (ld_box rfl hb6 rfl) rfl ?_
        refine AL.m 3 (by kernel_rfl) rfl (ld_box rfl hb1 rfl) rfl ?_
        refine AL.p 5 (by kernel_rfl) rfl (ix rfl rfl rfl hj1) rfl ?_
        refine AL.p 6 (by kernel_rfl) rfl (fa_el hm.1 rfl) rfl ?_
        have hj2 : j2 < m[j1].topics.length := by omega
        have htj := hts _ (List.getElem_mem hj1) (List.ne_nil_of_length_pos (by omega))
        obtain ⟨q, hq⟩ := htj.isAddr (by decide) hj2
        rw [hq] at htj
        refine AL.m 7 (by kernel_rfl) rfl (ld_el rfl hm H rfl hj1 (hdrM hq)) rfl ?_
        refine AL.p 9 (by kernel_rfl) rfl (ix rfl rfl rfl hj2) rfl ?_
        refine AL.m 10 (by kernel_rfl) rfl (ld_e0 rfl htj H rfl hj2 rfl) rfl ?_
        refine AL.m 12 (by kernel_rfl) rfl (ld_box rfl hb1 rfl) rfl ?_
        refine AL.p 14 (by kernel_rfl) rfl (ix rfl rfl rfl hj1) rfl ?_
        refine AL.p 15 (by kernel_rfl) rfl (fa_el hm.1 rfl) rfl ?_
        refine AL.m 16 (by kernel_rfl) rfl (ld_el rfl hm H rfl hj1 (hdrM hq)) rfl ?_
        refine AL.p 18 (by kernel_rfl) rfl (ix rfl rfl rfl hj2) rfl ?_
        refine AL.m 19 (by kernel_rfl) rfl (ld_e0 rfl htj H rfl hj2 rfl) rfl ?_
        refine AL.p 20 (by kernel_rfl) rfl (len_str rfl) rfl ?_
        refine AL.p 21 (by kernel_rfl) rfl (min_i rfl rfl) rfl ?_
        refine AL.p 22 (by kernel_rfl) rfl (slcS (n := min m[j1].topics[j2].size 40) rfl rfl (by omega) (by omega)) rfl ?_
        refine AL.o 23 (by kernel_rfl) rfl ?_
        refine RL.buildSlice w0.heap.size H.size rfl rfl rfl rfl rfl ?_
        intro w19 i112 hi112 hx hb112
        replace H := H.ext hx; replace hb1 := hb1.ext hx; replace hb2 := hb2.ext hx; replace hb3 := hb3.ext hx; replace H11 := H11.ext hx; replace hb6 := hb6.ext hx; replace hT := hT.ext hx; clear hx
        refine RL.nil ?_
        refine AL.o 24 (by kernel_rfl) rfl ?_
        refine RL.appendS rfl hT H11.size rfl (show Sl _ _ [m[j1].topics[j2].extract 0 (min m[j1].topics[j2].size 40)] from Box.sl1 hb112) rfl rfl (by decide) rfl cell1 (by omega) (by simp only [maxLen]; omega) rfl ?_
        intro w20 a113 c113 hu hb113 hfr113
        replace hb1 := box_own hb1 hT (by decide) hu
        replace hb2 := box_own hb2 hT (by decide) hu
        replace hb3 := box_own hb3 hT (by decide) hu
        replace hb6 := box_own hb6 hT (by decide) hu
        replace H11 := Ext.own H11 hT hu
        replace H := H0.trans H11; clear hu
        have hb6o := hb6
        refine RL.nil ?_
        refine AL.p 25 (by kernel_rfl) rfl (fa_box rfl) rfl ?_
        refine AL.o 26 (by kernel_rfl) rfl ?_
        refine RL.store1 rfl hb6 rfl rfl rfl rfl ?_
        intro w21 hu hb6
        replace H := H.box hu hb6.old; replace hb1 := hb1.upd hu ne1_6; replace hb2 := hb2.upd hu ne2_6; replace hb3 := hb3.upd hu ne3_6
        refine RL.nil ?_
        refine AL.nil (by kernel_rfl) ?_
        refine WP.region ?_
        refine RL.r (mvI rfl) rfl ?_
        refine RL.r (add rfl rfl (by omega)) rfl ?_
        refine RL.r (asgI rfl) rfl ?_
        refine RL.nil ?_
        replace hb113 := own_box hb113 hb6o (by decide) hu
        replace H11 := H11.box hu hi6o
        refine ⟨k2 - 1, by omega, j2 + 1, nm6, _, _, _, by omega, Head.intro (by repeat (first | with_reducible exact AgreeOff.mix _ _ _ | refine AgreeOff.look rfl ?_ | refine AgreeOff.mixs rfl ?_)) ⟨rfl, trivial⟩, H, hb1, hb2, hb3, H11, hb6, hb113, by rw [List.length_append]; simp only [List.length_cons, List.length_nil]; omega, hnm⟩
      · refine WP.exit ?_
        refine WP.region ?_
        refine RL.r (fa_box rfl) rfl ?_
        refine RL.m (ld_box rfl hb3 rfl) rfl ?_
        refine RL.m (ldS_box rfl hb6 (Nat.le_of_ble_eq_true rfl) rfl) rfl ?_
        refine RL.buildSlice w0.heap.size H.size rfl rfl rfl rfl rfl ?_
        intro w22 i118 hi118 hx hb118
        replace H := H.ext hx; replace hb1 := hb1.ext hx; replace hb2 := hb2.ext hx; replace hb3 := hb3.ext hx; replace H11 := H11.ext hx; replace hb6 := hb6.ext hx; replace hT := hT.ext hx; clear hx
        have hM2 := hM.ext H11
        refine RL.appendS rfl hM2 H.size rfl (show Sl _ _ [(⟨nm6, a6, c6, T6⟩ : Mem)] from Box.sl1 hb118) rfl rfl (by decide) rfl cell1 (by omega) (by simp only [maxLen]; omega) rfl ?_
        intro w23 a119 c119 hu hb119 hfr119
        have hT3 := own_own (hT.mono hs11) hM2 (by decide) hu
        have hL3 := own_own (hL.ext H11) hM2 (by decide) hu
        have hMt3 := (hMt.ext H11).own hM2 (by decide) hu
        replace hb1 := box_own hb1 hM2 (by decide) hu
        replace hb2 := box_own hb2 hM2 (by decide) hu
        replace hb3 := box_own hb3 hM2 (by decide) hu
        replace hb6 := hb6.upd hu (fun h => by have := (hM.blk h).2; omega)
        replace H := Ext.own H hM2 hu; clear hu
        have hb3o := hb3
        refine RL.r (fa_box rfl) rfl ?_
        refine RL.store1 rfl hb3 rfl rfl rfl rfl ?_
        intro w24 hu hb3
        replace H := H.box hu hb3.old; replace hb1 := hb1.upd hu ne1_3; replace hb2 := hb2.upd hu ne2_3; replace hb6 := hb6.upd hu (Ne.symm ne3_6)
        refine RL.nil ?_
        refine WP.region ?_
        refine RL.r (mvI rfl) rfl ?_
        refine RL.r (add rfl rfl (by omega)) rfl ?_
        refine RL.r (asgI rfl) rfl ?_
        refine RL.nil ?_
        replace hT3 := own_box hT3 hb3o (by decide) hu
        replace hL3 := own_box hL3 hb3o (by decide) hu
        replace hb119 := own_box hb119 hb3o (by decide) hu
        replace hMt3 := hMt3.box hb3o (by decide) hu
        refine ⟨k1 - 1, by omega, j1 + 1, _, _, _, _, _, _, by omega, Head.intro (by repeat (first | with_reducible exact AgreeOff.mix _ _ _ | refine AgreeOff.look rfl ?_ | refine AgreeOff.mixs rfl ?_)) ⟨rfl, trivial⟩, H, hb1, hb2, hb3, hL3, hLl, hb119, by rw [List.length_append]; simp only [List.length_cons, List.length_nil]; omega, ?_⟩
        intro x hx
        rcases List.mem_append.1 hx with hx | hx
        · exact hMt3 x hx
        · obtain rfl := List.mem_singleton.1 hx
          exact ⟨hT3, by show T6.length ≤ 10; omega, hnm⟩
    · refine WP.exit ?_
      refine WP.regionS ?_
      refine RL.m (ldS_box rfl hb3 (Nat.le_of_ble_eq_true rfl) rfl) rfl ?_
      refine RL.storeS rfl hb2 rfl rfl rfl rfl ?_
      intro w25 hu hb2
      replace H := H.box hu hb2.old; replace hb1 := hb1.upd hu ne1_2; replace hb3 := hb3.upd hu (Ne.symm ne2_3)
      refine RL.nil ?_
      refine WP.ret ?_
      have e2 := hb2h.ext H11
      have hL4 := own_box (hL.ext H11) e2 (by decide) hu
      have hM4 := own_box (hM.ext H11) e2 (by decide) hu
      have hMt4 := (hMt.ext H11).box e2 (by decide) hu
      refine finC_ret rfl hb2 ⟨⟨_, rfl, rfl⟩, ⟨a1, c1, L1, b1, d1, M1, rfl, hL4, hM4, hMt4, hLl, by omega⟩, H⟩
end Go.Proofs.Ytoebejfffakjpaa
