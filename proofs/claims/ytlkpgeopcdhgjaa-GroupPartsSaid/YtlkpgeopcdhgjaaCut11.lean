/-
  Seats that the statements ask with: cut.
-/
import Derived.Test.YtlkpgeopcdhgjaaFix11b
import Derived.Test.YtlkpgeopcdhgjaaSlc
import Derived.Test.YtlkpgeopcdhgjaaRow
import Derived.Test.YtlkpgeopcdhgjaaPlan
set_option linter.unusedVariables false
namespace Go.Proofs.Ytlkpgeopcdhgjaa
open Go Go.Eng Go.RowKit
theorem cut_size (s : ByteArray) (n : Nat) : (s.extract 0 (min s.size n)).size ≤ n := by
  rw [ByteArray.size_extract]; omega
/-- a seat whose topics are the call's own, of bounded texts -/
structure CutO (B : Nat) (w : World) (s : Seat) : Prop where
  own : Own B w 9 s.ta s.tc s.topics
  len : s.topics.length ≤ 10
  txt : ∀ t ∈ s.topics, t.size ≤ 40
  nm : s.name.size ≤ 40
theorem CutO.ext {B : Nat} {w w' : World} {s : Seat} (h : CutO B w s) (k : Ext w w') : CutO B w' s := ⟨h.own.ext k, h.len, h.txt, h.nm⟩
theorem CutO.mono {B B' : Nat} {w : World} {s : Seat} (h : CutO B w s) (k : B' ≤ B) : CutO B' w s := ⟨h.own.mono k, h.len, h.txt, h.nm⟩
theorem boxow {α : Type} [Lies α] {B B' : Nat} {w w' : World} {T T' : TypeId} {a : Option Addr} {c b : Nat} {l : List α} {cs : List Value} (ho : Box B' w b T' cs) (h : Own B w T a c l) (hT : T ≠ T') (k : Upd (inBlock a) w w') : Box B' w' b T' cs := ho.upd k (fun y => h.box_apart ho hT y)
theorem ownbx {α : Type} [Lies α] {B B' : Nat} {w w' : World} {T T' : TypeId} {a : Option Addr} {c b : Nat} {l : List α} {cs : List Value} (h : Own B w T a c l) (ho : Box B' w b T' cs) (hT : T ≠ T') (k : Upd (· = b) w w') : Own B w' T a c l := h.upd k (fun y hy e => by subst e; exact h.box_apart ho hT hy)
set_option maxRecDepth 20000 in
set_option maxHeartbeats 800000 in
theorem lCut' (w0 : World) (nm : ByteArray) (ta : Option Addr) (tc : Nat) (tp : List ByteArray) (tmo se : Int) (hl : SlI w0 ta tp) :
    Ct Try.prog 22 #[.agg [.string nm, .slice ta tp.length tc, .int .i64 tmo, .int .i64 se].toArray] w0 fun v w' => (∃ s' : Seat, v = .agg (Lies.enc s').toArray ∧ CutO w0.heap.size w' s') ∧ Ext w0 w' := by
  refine Ct.introC Try.func22 Try.ntmps22 rfl rfl (by decide) rfl ?_
  have H : Ext w0 w0 := Ext.refl w0
  refine WP.regionS ?_
  refine RL.boxS w0.heap.size H.size rfl rfl ?_
  intro w1 i1 hi1 hx hb1
  replace H := H.ext hx; clear hx
  refine RL.alloc w0.heap.size H.size rfl rfl ?_
  intro w2 i2 hi2 hx hb2
  have ne1_2 := hb1.ne hi2
  replace H := H.ext hx; replace hb1 := hb1.ext hx; clear hx
  refine RL.nil ?_
  refine WP.seq ?_
  refine WP.any ?_
  intro w3 hx; replace H := H.ext hx; replace hb1 := hb1.ext hx; replace hb2 := hb2.ext hx
  refine AL.p 0 (by kernel_rfl) rfl (fa_box rfl) rfl ?_
  refine AL.p 1 (by kernel_rfl) rfl (fa_box rfl) rfl ?_
  refine AL.p 3 (by kernel_rfl) rfl (fa_box rfl) rfl ?_
  refine AL.p 4 (by kernel_rfl) rfl (fa_box rfl) rfl ?_
  refine AL.p 10 (by kernel_rfl) rfl (fa_box rfl) rfl ?_
  refine AL.p 12 (by kernel_rfl) rfl (fa_box rfl) rfl ?_
  refine AL.m 2 (by kernel_rfl) rfl (ld_box rfl hb1 rfl) rfl ?_
  refine AL.m 5 (by kernel_rfl) rfl (ld_box rfl hb1 rfl) rfl ?_
  refine AL.p 6 (by kernel_rfl) rfl (len_str rfl) rfl ?_
  refine AL.p 7 (by kernel_rfl) rfl (min_i rfl rfl) rfl ?_
  refine AL.p 8 (by kernel_rfl) rfl (slcS (n := min nm.size 40) rfl rfl (by omega) (by omega)) rfl ?_
  refine AL.p 9 (by kernel_rfl) rfl (bld rfl rfl) rfl ?_
  refine AL.m 11 (by kernel_rfl) rfl (ld_box rfl hb1 rfl) rfl ?_
  refine AL.m 13 (by kernel_rfl) rfl (ld_box rfl hb1 rfl) rfl ?_
  refine AL.p 14 (by kernel_rfl) rfl (bld rfl rfl) rfl ?_
  refine AL.o 15 (by kernel_rfl) rfl ?_
  refine RL.alloc w0.heap.size H.size rfl rfl ?_
  intro w4 i3 hi3 hx hb3
  have ne1_3 := hb1.ne hi3
  have ne2_3 := hb2.ne hi3
  refine RL.nil ?_
  refine AL.o 16 (by kernel_rfl) rfl ?_
  refine RL.storeS rfl hb3 rfl rfl rfl rfl ?_
  intro w5 hu hb3
  replace hx := hx.box hu (Nat.le_of_eq hi3.symm)
  replace H := H.ext hx; replace hb1 := hb1.ext hx; replace hb2 := hb2.ext hx; clear hx hu
  refine RL.nil ?_
  refine AL.nil (by kernel_rfl) ?_
  refine WP.seq ?_
  refine WP.regionS ?_
  refine RL.r (asgI rfl) rfl ?_
  refine RL.nil ?_
  refine WP.block ?_
  refine WP.loop (fun k e' w' => ∃ j : Nat, ∃ (a3 : Option Addr) (c3 : Nat) (T3 : List ByteArray),  j + k = min tp.length 10 ∧ Head [4, 20, 21, 22, 23, 24, 25, 26, 27, 28, 29, 30, 31, 32, 33, 34, 35, 36, 37, 38, 39, 40, 41, 42, 43, 44, 45, 46, 47, 48, 49, 50, 51, 52, 53] _ [(4, .int .i64 (j : Int))] e' ∧ Ext w0 w' ∧ Box w0.heap.size w' i1 31 [.string nm, .slice ta tp.length tc, .int .i64 tmo, .int .i64 se] ∧ Box w0.heap.size w' i2 31 [.string (ByteArray.mk #[]), .slice none 0 0, .int .i64 0, .int .i64 0] ∧ Box w0.heap.size w' i3 31 [.string (nm.extract 0 (min nm.size 40)), .slice a3 T3.length c3, .int .i64 tmo, .int .i64 se] ∧ Own w0.heap.size w' 9 a3 c3 T3 ∧ T3.length ≤ j ∧ ∀ t ∈ T3, t.size ≤ 40) (min tp.length 10)
    ⟨0, none, 0, [], by omega, Head.intro (AgreeOff.refl _ _) ⟨rfl, trivial⟩, H, hb1, hb2, hb3, Own.nil _ _ _, Nat.le_refl _, fun t ht => by cases ht⟩ ?_
  clear H hb1 hb2 hb3
  rintro k e w6 ⟨j, a3, c3, T3, hjk, ⟨jk, rfl⟩, H, hb1, hb2, hb3, hT, hTl, hTs⟩
  refine WP.seq ?_
  refine WP.seq (WP.quiet ?_)
  refine QL.r (mvI rfl) rfl ?_
  refine QL.r (fa_box rfl) rfl ?_
  refine QL.r (fa_box rfl) rfl ?_
  refine QL.m (ld_box rfl hb1 rfl) rfl ?_
  refine QL.r (len_sl rfl) rfl ?_
  refine QL.r (lss rfl rfl) rfl ?_
  refine QL.r (mvB rfl) rfl ?_
  refine QL.gg (gwT rfl rfl) (fun hg => (mvI rfl).does _) rfl ?_
  refine QL.gg (gwT rfl rfl) (fun hg => (lss (gs hg rfl) rfl).does _) rfl ?_
  refine QL.r (pickAnd rfl (fun hn => gs hn rfl)) rfl ?_
  refine QL.nil ?_; intro w7 hx; replace H := H.ext hx; replace hb1 := hb1.ext hx; replace hb2 := hb2.ext hx; replace hb3 := hb3.ext hx; replace hT := hT.ext hx
  refine WP.cond rfl (fun hc => ?_) (fun hc => ?_)
  · refine WP.skip ?_
    refine WP.seq ?_
    refine WP.block ?_
    refine WP.any ?_
    intro w8 hx; replace H := H.ext hx; replace hb1 := hb1.ext hx; replace hb2 := hb2.ext hx; replace hb3 := hb3.ext hx; replace hT := hT.ext hx
    refine AL.p 0 (by kernel_rfl) rfl (fa_box rfl) rfl ?_
    refine AL.p 1 (by kernel_rfl) rfl (fa_box rfl) rfl ?_
    refine AL.p 3 (by kernel_rfl) rfl (fa_box rfl) rfl ?_
    refine AL.p 4 (by kernel_rfl) rfl (fa_box rfl) rfl ?_
    refine AL.p 6 (by kernel_rfl) rfl (mvI rfl) rfl ?_
    refine AL.p 9 (by kernel_rfl) rfl (fa_box rfl) rfl ?_
    refine AL.p 10 (by kernel_rfl) rfl (fa_box rfl) rfl ?_
    refine AL.p 12 (by kernel_rfl) rfl (mvI rfl) rfl ?_
    refine AL.m 2 (by kernel_rfl) rfl (ld_box rfl hb3 rfl) rfl ?_
    refine AL.m 5 (by kernel_rfl) rfl (ld_box rfl hb1 rfl) rfl ?_
    have hj : j < tp.length := by omega
    have hl := hl (List.ne_nil_of_length_pos (by omega))
    obtain ⟨p, rfl⟩ := hl.isAddr (by decide) hj
    refine AL.p 7 (by kernel_rfl) rfl (ix rfl rfl rfl hj) rfl ?_
    refine AL.m 8 (by kernel_rfl) rfl (ld_e0 rfl hl H rfl hj rfl) rfl ?_
    refine AL.m 11 (by kernel_rfl) rfl (ld_box rfl hb1 rfl) rfl ?_
    refine AL.p 13 (by kernel_rfl) rfl (ix rfl rfl rfl hj) rfl ?_
    refine AL.m 14 (by kernel_rfl) rfl (ld_e0 rfl hl H rfl hj rfl) rfl ?_
    refine AL.p 15 (by kernel_rfl) rfl (len_str rfl) rfl ?_
    refine AL.p 16 (by kernel_rfl) rfl (min_i rfl rfl) rfl ?_
    refine AL.p 17 (by kernel_rfl) rfl (slcS (n := min tp[j].size 40) rfl rfl (by omega) (by omega)) rfl ?_
    refine AL.o 18 (by kernel_rfl) rfl ?_
    refine RL.buildSlice w0.heap.size H.size rfl rfl rfl rfl rfl ?_
    intro w9 i50 hi50 hx hb50
    replace H := H.ext hx; replace hb1 := hb1.ext hx; replace hb2 := hb2.ext hx; replace hb3 := hb3.ext hx; replace hT := hT.ext hx; clear hx
    refine RL.nil ?_
    refine AL.o 19 (by kernel_rfl) rfl ?_
    refine RL.appendS rfl hT H.size rfl (show Sl _ _ [tp[j].extract 0 (min tp[j].size 40)] from Box.sl1 hb50) rfl rfl (by decide) rfl cell1 (by omega) (by simp only [maxLen]; omega) rfl ?_
    intro w10 a51 c51 hu hb51 hfr51
    replace hb1 := boxow hb1 hT (by decide) hu
    replace hb2 := boxow hb2 hT (by decide) hu
    replace hb3 := boxow hb3 hT (by decide) hu
    replace H := Ext.own H hT hu; clear hu
    have hb3o := hb3
    refine RL.nil ?_
    refine AL.p 20 (by kernel_rfl) rfl (fa_box rfl) rfl ?_
    refine AL.p 21 (by kernel_rfl) rfl (fa_box rfl) rfl ?_
    refine AL.o 22 (by kernel_rfl) rfl ?_
    refine RL.store1 rfl hb3 rfl rfl rfl rfl ?_
    intro w11 hu hb3
    replace H := H.box hu hb3.old; replace hb1 := hb1.upd hu ne1_3; replace hb2 := hb2.upd hu ne2_3
    refine RL.nil ?_
    refine AL.nil (by kernel_rfl) ?_
    refine WP.region ?_
    refine RL.r (mvI rfl) rfl ?_
    refine RL.r (add rfl rfl (by omega)) rfl ?_
    refine RL.r (asgI rfl) rfl ?_
    refine RL.nil ?_
    replace hb51 := ownbx hb51 hb3o (by decide) hu
    refine ⟨k - 1, by omega, j + 1, _, _, _, by omega, Head.intro (by repeat (first | with_reducible exact AgreeOff.mix _ _ _ | refine AgreeOff.look rfl ?_ | refine AgreeOff.mixs rfl ?_)) ⟨rfl, trivial⟩, H, hb1, hb2, hb3, hb51, by rw [List.length_append]; simp only [List.length_cons, List.length_nil]; omega, ?_⟩
    intro t ht
    rcases List.mem_append.1 ht with h | h
    · exact hTs t h
    · rw [List.mem_singleton.1 h]; exact cut_size _ _
  · refine WP.exit ?_
    refine WP.regionS ?_
    refine RL.m (ldS_box rfl hb3 (Nat.le_of_ble_eq_true rfl) rfl) rfl ?_
    refine RL.storeS rfl hb2 rfl rfl rfl rfl ?_
    intro w12 hu hb2
    replace H := H.box hu hb2.old; replace hb1 := hb1.upd hu ne1_2; replace hb3 := hb3.upd hu (Ne.symm ne2_3)
    refine RL.nil ?_
    refine WP.ret ?_
    have hT4 := ownbx hT (by assumption) (by decide) hu
    refine finC_ret rfl hb2 ⟨⟨_, rfl, rfl⟩, ⟨⟨nm.extract 0 (min nm.size 40), a3, c3, T3, tmo, se⟩, rfl, hT4, by show T3.length ≤ 10; omega, hTs, cut_size _ _⟩, H⟩
theorem lCut (w0 : World) (s : Seat) (hl : SlI w0 s.ta s.topics) :
    Ct Try.prog 22 #[.agg (Lies.enc s).toArray] w0 fun v w' => (∃ s' : Seat, v = .agg (Lies.enc s').toArray ∧ CutO w0.heap.size w' s') ∧ Ext w0 w' :=
  lCut' w0 s.name s.ta s.tc s.topics s.timeout s.seen hl
end Go.Proofs.Ytlkpgeopcdhgjaa
