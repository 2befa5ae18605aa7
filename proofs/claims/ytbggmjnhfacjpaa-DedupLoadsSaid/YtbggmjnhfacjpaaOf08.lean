/-
  The batches that the statements ask with: of; a batch that is bounded.
-/
import Derived.Test.YtbggmjnhfacjpaaDed7
import Derived.Test.YtbggmjnhfacjpaaRow
set_option linter.unusedVariables false
namespace Go.Proofs.Ytbggmjnhfacjpaa
open Go Go.Eng Go.RowKit
abbrev eS : ByteArray := ⟨#[]⟩
abbrev zRec : Rec := ⟨false, eS, false, eS⟩
theorem boxow {α : Type} [Lies α] {B B' : Nat} {w w' : World} {T T' : TypeId} {a : Option Addr} {c b : Nat} {l : List α} {cs : List Value} (ho : Box B' w b T' cs) (h : Own B w T a c l) (hT : T ≠ T') (k : Upd (inBlock a) w w') : Box B' w' b T' cs := ho.upd k (fun y => h.box_apart ho hT y)
theorem ownbx {α : Type} [Lies α] {B B' : Nat} {w w' : World} {T T' : TypeId} {a : Option Addr} {c b : Nat} {l : List α} {cs : List Value} (h : Own B w T a c l) (ho : Box B' w b T' cs) (hT : T ≠ T') (k : Upd (· = b) w w') : Own B w' T a c l := h.upd k (fun y hy e => by subst e; exact h.box_apart ho hT hy)
set_option maxRecDepth 20000 in
theorem pOf (w0 : World) (id epoch seq n : Int) (hn : n ≤ 1000) :
    Ct Try.prog 19 #[.int .i64 id, .int .i64 epoch, .int .i64 seq, .int .i64 n] w0 fun v w' => (∃ (ra : Option Addr) (rc : Nat) (recs : List Rec), v = .agg (Lies.enc (⟨id, epoch, seq, ra, rc, recs⟩ : Bat)).toArray ∧ recs.length = n.toNat) ∧ Ext w0 w' := by
  refine Ct.introC Try.func19 Try.ntmps19 rfl rfl (by decide) rfl ?_
  have H : Ext w0 w0 := Ext.refl w0
  refine WP.regionS ?_
  refine RL.alloc w0.heap.size H.size rfl rfl ?_
  intro w1 i8 hi8 hx hb8
  replace H := H.ext hx; clear hx
  refine RL.nil ?_
  refine WP.regionS ?_
  refine RL.r (mvI rfl) rfl ?_
  refine RL.r (mvI rfl) rfl ?_
  refine RL.r (mvI rfl) rfl ?_
  refine RL.r (bld rfl rfl) rfl ?_
  refine RL.alloc w0.heap.size H.size rfl rfl ?_
  intro w2 i9 hi9 hx hb9
  have ne8_9 := hb8.ne hi9
  refine RL.storeS rfl hb9 rfl rfl rfl rfl ?_
  intro w3 hu hb9
  replace hx := hx.box hu (Nat.le_of_eq hi9.symm)
  replace H := H.ext hx; replace hb8 := hb8.ext hx; clear hx hu
  refine RL.nil ?_
  refine WP.seq ?_
  refine WP.regionS ?_
  refine RL.r (asgI rfl) rfl ?_
  refine RL.nil ?_
  refine WP.block ?_
  refine WP.loop (fun k e' w' => ∃ j : Nat, ∃ (ra : Option Addr) (rc : Nat) (recs : List Rec),  j + k = n.toNat ∧ Head [10, 15, 16, 17, 18, 19, 20, 21, 22, 23, 24, 25] _ [(10, .int .i64 (j : Int))] e' ∧ Ext w0 w' ∧ Box w0.heap.size w' i8 28 [.int .i64 0, .int .i64 0, .int .i64 0, .slice none 0 0] ∧ Box w0.heap.size w' i9 28 [.int .i64 id, .int .i64 epoch, .int .i64 seq, .slice ra recs.length rc] ∧ Own w0.heap.size w' 79 ra rc recs ∧ recs.length = j) (n.toNat)
    ⟨0, none, 0, [], by omega, Head.intro (AgreeOff.refl _ _) ⟨rfl, trivial⟩, H, hb8, hb9, Own.nil _ _ _, rfl⟩ ?_
  clear H hb8 hb9
  rintro k e w4 ⟨j, ra, rc, recs, hjk, ⟨jk, rfl⟩, H, hb8, hb9, hR, hRl⟩
  refine WP.seq ?_
  refine WP.regionS ?_
  refine RL.r (mvI rfl) rfl ?_
  refine RL.r (mvI rfl) rfl ?_
  refine RL.r (lss rfl rfl) rfl ?_
  refine RL.nil ?_
  refine WP.cond rfl (fun hc => ?_) (fun hc => ?_)
  · refine WP.skip ?_
    refine WP.seq ?_
    refine WP.block ?_
    refine WP.region ?_
    refine RL.r (fa_box rfl) rfl ?_
    refine RL.m (ld_box rfl hb9 rfl) rfl ?_
    refine RL.r (bld rfl rfl) rfl ?_
    refine RL.buildSlice w0.heap.size H.size rfl rfl rfl rfl rfl ?_
    intro w5 i23 hi23 hx hb23
    replace H := H.ext hx; replace hb8 := hb8.ext hx; replace hb9 := hb9.ext hx; replace hR := hR.ext hx; clear hx
    refine RL.appendS rfl hR H.size rfl (show Sl _ _ [zRec] from Box.sl1 hb23) rfl rfl (by decide) rfl cell1 (by omega) (by simp only [maxLen]; omega) rfl ?_
    intro w6 a24 c24 hu hb24 hfr24
    replace hb8 := boxow hb8 hR (by decide) hu
    replace hb9 := boxow hb9 hR (by decide) hu
    replace H := Ext.own H hR hu; clear hu
    have hb9o := hb9
    refine RL.r (fa_box rfl) rfl ?_
    refine RL.store1 rfl hb9 rfl rfl rfl rfl ?_
    intro w7 hu hb9
    replace H := H.box hu hb9.old; replace hb8 := hb8.upd hu ne8_9
    refine RL.nil ?_
    refine WP.region ?_
    refine RL.r (mvI rfl) rfl ?_
    refine RL.r (add rfl rfl (by omega)) rfl ?_
    refine RL.r (asgI rfl) rfl ?_
    refine RL.nil ?_
    replace hb24 := ownbx hb24 hb9o (by decide) hu
    refine ⟨k - 1, by omega, j + 1, _, _, _, by omega, Head.intro (by repeat (first | with_reducible exact AgreeOff.mix _ _ _ | refine AgreeOff.look rfl ?_ | refine AgreeOff.mixs rfl ?_)) ⟨rfl, trivial⟩, H, hb8, hb9, hb24, by rw [List.length_append, hRl]; rfl⟩
  · refine WP.exit ?_
    refine WP.regionS ?_
    refine RL.m (ldS_box rfl hb9 (Nat.le_of_ble_eq_true rfl) rfl) rfl ?_
    refine RL.storeS rfl hb8 rfl rfl rfl rfl ?_
    intro w8 hu hb8
    replace H := H.box hu hb8.old; replace hb9 := hb9.upd hu (Ne.symm ne8_9)
    refine RL.nil ?_
    refine WP.ret ?_
    refine finC_ret rfl hb8 ⟨⟨_, rfl, rfl⟩, ⟨ra, rc, recs, rfl, by omega⟩, H⟩
end Go.Proofs.Ytbggmjnhfacjpaa
