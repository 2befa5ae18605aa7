/-
  The walks of a group's small functions.
-/
import Derived.Test.YtlkpgeopcdhgjaaGrp0
set_option linter.unusedVariables false
namespace Go.Proofs.Ytlkpgeopcdhgjaa
open Go Go.Eng Go.RowKit
theorem boolE {x y : Bool} (h : x = y) : Value.bool x = Value.bool y := by rw [h]
theorem tup_ib {x y : Int} {a b : Bool} (h : x = y) (k : a = b) : Value.tuple #[.int .i64 x, .bool a] = Value.tuple #[.int .i64 y, .bool b] := by rw [h, k]
theorem tup_ii {x y x' y' : Int} (h : x = y) (k : x' = y') : Value.tuple #[.int .i64 x, .int .i64 x'] = Value.tuple #[.int .i64 y, .int .i64 y'] := by rw [h, k]
theorem st_get {H : List Seat} {S : List St} (h : H.map Seat.st = S) (k : ByteArray) : eGet S k = (eGet H k).map Seat.st := by rw [← h]; exact eGet_map key_st H k
theorem st_none {H : List Seat} {S : List St} (h : H.map Seat.st = S) (k : ByteArray) : eGet H k = none ↔ eGet S k = none := by rw [st_get h]; cases eGet H k <;> simp
theorem tg_new {B : Nat} {w : World} {i m : Nat} (hb : Box B w i 75 [.int .i64 0, .bool false, .map (some m)]) (hm : MpB Try.prog 9 B w m ([] : List (ByteArray × Value × Nat)) 0) : Tg B w i m g0 :=
  ⟨hb, ⟨[], _, _, hm, List.Perm.refl _, rfl, Owns.nil _ _⟩, okG0⟩
theorem gNew (w0 : World) :
    Ct Try.prog 9 #[] w0 fun v w' => (∃ i m, v = .pointer (some ⟨i, 0, none⟩) ∧ Tg w0.heap.size w' i m g0) ∧ Ext w0 w' := by
  refine Ct.intro1 Try.func9 Try.ntmps9 rfl rfl (by decide) rfl ?_
  have H : Ext w0 w0 := Ext.refl w0
  refine WP.regionS ?_
  refine RL.r (asgP rfl) rfl ?_
  refine RL.nil ?_
  refine WP.regionS ?_
  refine RL.makeM w0.heap.size H.size rfl 9 ByteArray ?_
  intro w1 i1 hi1 hx hm
  replace H := H.ext hx; clear hx
  refine RL.r (bld rfl rfl) rfl ?_
  refine RL.boxS w0.heap.size H.size rfl rfl ?_
  intro w2 i3 hi3 hx hb3
  replace H := H.ext hx; replace hm := hm.ext hx; clear hx
  refine RL.r (asgP rfl) rfl ?_
  refine RL.nil ?_
  refine WP.ret ?_
  refine fin1_ret rfl ⟨⟨_, _, rfl, tg_new hb3 hm⟩, H⟩
theorem gGen (w0 : World) (B i m : Nat) (G : Gs) (hT : Tg B w0 i m G) :
    Ct Try.prog 12 #[.pointer (some ⟨i, 0, none⟩)] w0 fun v w' => v = .tuple #[.int .i64 G.gen, .bool G.rb] ∧ Ext w0 w' := by
  refine Ct.intro2 Try.func12 Try.ntmps12 rfl rfl (by decide) rfl ?_
  have H : Ext w0 w0 := Ext.refl w0
  obtain ⟨H0, lb, c, hm, hr, hst, how⟩ := hT.map
  have hbt := hT.box
  have hok := hT.ok
  refine WP.regionS ?_
  refine RL.r (asgI rfl) rfl ?_
  refine RL.r (asgB rfl) rfl ?_
  refine RL.nil ?_
  refine WP.seq ?_
  refine WP.draw (by kernel_rfl) ?_
  refine QL.r (mvP rfl) rfl ?_
  refine QL.r (nilck rfl) rfl ?_
  refine QL.r (fa_box rfl) rfl ?_
  refine QL.m (ld_box rfl hbt rfl) rfl ?_
  refine QL.r (mvP rfl) rfl ?_
  refine QL.r (nilck rfl) rfl ?_
  refine QL.r (fa_box rfl) rfl ?_
  refine QL.m (ld_box rfl hbt rfl) rfl ?_
  refine QL.r (asgI rfl) rfl ?_
  refine QL.r (asgB rfl) rfl ?_
  refine QL.nil ?_; intro w1 hx; replace H := H.ext hx; replace hbt := hbt.ext hx; replace hm := hm.ext hx
  refine WP.ret ?_
  refine fin2_ret rfl rfl ⟨rfl, H⟩
theorem gFence (w0 : World) (B i m : Nat) (G : Gs) (hT : Tg B w0 i m G) (name : ByteArray) (gen : Int) :
    Ct Try.prog 17 #[.pointer (some ⟨i, 0, none⟩), .string name, .int .i64 gen] w0 fun v w' => v = .int .i64 (fenceE G name gen) ∧ Ext w0 w' := by
  refine Ct.intro1 Try.func17 Try.ntmps17 rfl rfl (by decide) rfl ?_
  have H : Ext w0 w0 := Ext.refl w0
  obtain ⟨H0, lb, c, hm, hr, hst, how⟩ := hT.map
  have hbt := hT.box
  have hok := hT.ok
  refine WP.regionS ?_
  refine RL.r (asgI rfl) rfl ?_
  refine RL.nil ?_
  refine WP.regionS ?_
  refine RL.r (mvP rfl) rfl ?_
  refine RL.r (nilck rfl) rfl ?_
  refine RL.r (fa_box rfl) rfl ?_
  refine RL.m (ld_box rfl hbt rfl) rfl ?_
  refine RL.r (mvS rfl) rfl ?_
  refine RL.m (lkSO (z0 := zSeat) (k := name) rfl hm rfl (rep_get hr hm.nod _) rfl) rfl ?_
  refine RL.r (mvU rfl) rfl ?_
  refine RL.r (ex0 rfl) rfl ?_
  refine RL.r (ex1 rfl) rfl ?_
  refine RL.alloc w0.heap.size H.size rfl rfl ?_
  intro w1 i7 hi7 hx hb7
  have net_7 := hbt.ne hi7
  refine RL.storeS rfl hb7 rfl rfl rfl rfl ?_
  intro w2 hu hb7
  replace hx := hx.box hu (Nat.le_of_eq hi7.symm)
  replace H := H.ext hx; replace hbt := hbt.ext hx; replace hm := hm.ext hx; clear hx hu
  refine RL.r (asgB rfl) rfl ?_
  refine RL.nil ?_
  refine WP.seq ?_
  refine WP.block ?_
  refine WP.regionS ?_
  refine RL.r (mvB rfl) rfl ?_
  first | refine RL.r (notD rfl) rfl ?_ | refine RL.r (not_ rfl) rfl ?_
  refine RL.r (asgB rfl) rfl ?_
  refine RL.nil ?_
  refine WP.cond rfl (fun hc => ?_) (fun hc => ?_)
  · refine WP.regionS ?_
    refine RL.r (asgI rfl) rfl ?_
    refine RL.nil ?_
    refine WP.ret ?_
    refine fin1_ret rfl ⟨intE (by unfold fenceE; rw [if_pos ((st_none hst name).1 (Classical.not_not.1 hc))]), H⟩
  · refine WP.regionS ?_
    refine RL.r (mvI rfl) rfl ?_
    refine RL.r (mvP rfl) rfl ?_
    refine RL.r (nilck rfl) rfl ?_
    refine RL.r (fa_box rfl) rfl ?_
    refine RL.m (ld_box rfl hbt rfl) rfl ?_
    refine RL.r (neq rfl rfl) rfl ?_
    refine RL.r (asgB rfl) rfl ?_
    refine RL.nil ?_
    refine WP.cond rfl (fun hc => ?_) (fun hc => ?_)
    · refine WP.regionS ?_
      refine RL.r (asgI rfl) rfl ?_
      refine RL.nil ?_
      refine WP.ret ?_
      refine fin1_ret rfl ⟨intE (by unfold fenceE; rw [if_neg (fun h => ‹¬ ¬ eGet H0 name ≠ none› (fun h2 => h2 ((st_none hst name).2 h))), if_pos hc]), H⟩
    · refine WP.skip ?_
      refine WP.regionS ?_
      refine RL.r (asgI rfl) rfl ?_
      refine RL.nil ?_
      refine WP.ret ?_
      refine fin1_ret rfl ⟨intE (by unfold fenceE; rw [if_neg (fun h => ‹¬ ¬ eGet H0 name ≠ none› (fun h2 => h2 ((st_none hst name).2 h))), if_neg hc]), H⟩
theorem gNext (w0 : World) (B i m : Nat) (g : Int) (rb : Bool) (hb : Box B w0 i 75 [.int .i64 g, .bool rb, .map (some m)]) (hg : numB g) :
    Ct Try.prog 33 #[.pointer (some ⟨i, 0, none⟩)] w0 fun v w' => (v = .tuple #[] ∧ Box B w' i 75 [.int .i64 (nextN g), .bool rb, .map (some m)]) ∧ Upd (· = i) w0 w' := by
  refine Ct.intro0 Try.func33 Try.ntmps33 rfl rfl (by decide) rfl ?_
  have H : Upd (· = i) w0 w0 := Upd.refl _ w0
  have hbt := hb
  unfold numB at hg
  refine WP.region ?_
  refine RL.r (mvP rfl) rfl ?_
  refine RL.r (mvP rfl) rfl ?_
  refine RL.r (nilck rfl) rfl ?_
  refine RL.r (fa_box rfl) rfl ?_
  refine RL.m (ld_box rfl hbt rfl) rfl ?_
  refine RL.r (add rfl rfl (by omega)) rfl ?_
  refine RL.r (min_i rfl rfl) rfl ?_
  refine RL.r (nilck rfl) rfl ?_
  refine RL.r (fa_box rfl) rfl ?_
  refine RL.store1 rfl hbt rfl rfl rfl rfl ?_
  intro w1 hu hbt
  replace H := Upd.same H hu
  refine RL.nil ?_
  exact fin0_end ⟨⟨rfl, hbt⟩, H⟩
theorem gClone (w0 : World) (a : Option Addr) (c : Nat) (l : List ByteArray) (hl : Sl w0 a l) (hlen : l.length ≤ 100000) :
    Ct Try.prog 57 #[.slice a l.length c] w0 fun v w' => (∃ a' c', v = .slice a' l.length c' ∧ Own w0.heap.size w' 9 a' c' l) ∧ Ext w0 w' := by
  refine Ct.intro1 Try.func57 Try.ntmps57 rfl rfl (by decide) rfl ?_
  have H : Ext w0 w0 := Ext.refl w0
  refine WP.regionS ?_
  refine RL.r (asgL rfl) rfl ?_
  refine RL.nil ?_
  refine WP.seq ?_
  refine WP.regionS ?_
  refine RL.r (mvL rfl) rfl ?_
  refine RL.r (sleqn rfl rfl) rfl ?_
  refine RL.nil ?_
  refine WP.cond rfl (fun hc => ?_) (fun hc => ?_)
  · refine WP.regionS ?_
    refine RL.r (asgL rfl) rfl ?_
    refine RL.nil ?_
    refine WP.ret ?_
    refine fin1_ret rfl ⟨⟨none, 0, ?_, ?_⟩, H⟩
    · subst hc; rw [sl_none hl (by decide)]; rfl
    · subst hc; rw [sl_none hl (by decide)]; exact Own.nil _ _ _
  · refine WP.skip ?_
    refine WP.regionS ?_
    refine RL.build0 (α := ByteArray) w0.heap.size H.size rfl ?_
    intro w1 i5 hi5 hx hb5
    replace H := H.ext hx; clear hx
    refine RL.r (mvL rfl) rfl ?_
    refine RL.appendS rfl hb5 H.size rfl (hl.ext H) rfl rfl (by decide) rfl cell1 (by rw [List.length_nil]; omega) (by rw [List.length_nil]; simp only [maxLen]; omega) rfl ?_
    intro w2 a7 c7 hu hb7 hfr7
    replace H := Ext.own H hb5 hu; clear hu
    refine RL.r (asgL rfl) rfl ?_
    refine RL.nil ?_
    refine WP.ret ?_
    refine fin1_ret rfl ⟨⟨a7, c7, slE (by simp), hb7⟩, H⟩
theorem gOwn (w0 : World) (s : Seat) (hl : Sl w0 s.ta s.topics) (hlen : s.topics.length ≤ 100000) :
    Ct Try.prog 32 #[.agg (Lies.enc s).toArray] w0 fun v w' => (∃ s' : Seat, v = .agg (Lies.enc s').toArray ∧ s'.st = s.st ∧ Own w0.heap.size w' 9 s'.ta s'.tc s'.topics) ∧ Ext w0 w' := by
  refine Ct.introC Try.func32 Try.ntmps32 rfl rfl (by decide) rfl ?_
  have H : Ext w0 w0 := Ext.refl w0
  refine WP.regionS ?_
  refine RL.boxS w0.heap.size H.size rfl rfl ?_
  intro w1 i1 hi1 hx hb1
  replace H := H.ext hx; clear hx
  refine RL.alloc w0.heap.size H.size rfl rfl ?_
  intro w2 i2 hi2 hx hb2
  have ne1_2 := hb1.ne hi2
  replace H := H.ext hx; replace hb1 := hb1.ext hx; clear hx
  refine RL.nil ?_
  refine WP.regionS ?_
  refine RL.r (fa_box rfl) rfl ?_
  refine RL.r (fa_box rfl) rfl ?_
  refine RL.m (ld_box rfl hb1 rfl) rfl ?_
  -- call slices.Clone[[]string,string] (tmp 5)
  have hsz := H.size
  refine RL.call (gClone w2 s.ta s.tc s.topics (hl.ext H) hlen) rfl rfl ?_
  rintro v w3 ⟨⟨a5, c5, rfl, hO⟩, hx⟩
  replace H := H.ext hx; replace hb1 := hb1.ext hx; replace hb2 := hb2.ext hx
  refine RL.r (fa_box rfl) rfl ?_
  refine RL.r (fa_box rfl) rfl ?_
  have hb1_0 := hb1
  refine RL.store1 rfl hb1 rfl rfl rfl rfl ?_
  intro w4 hu hb1
  replace hO := hO.upd hu (fun j hj e => hO.box_apart hb1_0 (by decide) (e ▸ hj))
  replace H := H.box hu hb1.old; replace hb2 := hb2.upd hu (Ne.symm ne1_2)
  refine RL.nil ?_
  refine WP.regionS ?_
  refine RL.m (ldS_box rfl hb1 (Nat.le_of_ble_eq_true rfl) rfl) rfl ?_
  have hb2_0 := hb2
  refine RL.storeS rfl hb2 rfl rfl rfl rfl ?_
  intro w5 hu hb2
  replace hO := hO.upd hu (fun j hj e => hO.box_apart hb2_0 (by decide) (e ▸ hj))
  replace H := H.box hu hb2.old; replace hb1 := hb1.upd hu ne1_2
  refine RL.nil ?_
  refine WP.ret ?_
  refine finC_ret rfl hb2 ⟨⟨_, rfl, rfl⟩, ⟨⟨⟨s.name, a5, c5, s.topics, s.timeout, s.seen⟩, rfl, rfl, hO.mono hsz⟩, H⟩⟩
end Go.Proofs.Ytlkpgeopcdhgjaa
