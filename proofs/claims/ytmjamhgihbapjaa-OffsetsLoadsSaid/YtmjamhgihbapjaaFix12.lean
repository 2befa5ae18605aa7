/-
  What the statements of chapter 12 ask at fixed marks.
-/
import Derived.Test.YtmjamhgihbapjaaTab3
set_option linter.unusedVariables false
namespace Go.Proofs.Ytmjamhgihbapjaa
open Go Go.Eng Go.RowKit
abbrev gS : ByteArray := ⟨#[103]⟩
abbrev hS : ByteArray := ⟨#[104]⟩
abbrev aS : ByteArray := ⟨#[97]⟩
abbrev pA : Part := ⟨aS, 0⟩
abbrev x5 : Mrk := ⟨gS, aS, 0, 5⟩
abbrev x4 : Mrk := ⟨gS, aS, 0, 4⟩
abbrev x7 : Mrk := ⟨gS, aS, 0, 7⟩
abbrev e0 : Mrk := ⟨⟨#[]⟩, aS, 0, 0⟩
abbrev z0 : Mrk := ⟨⟨#[]⟩, ⟨#[]⟩, 0, 0⟩
theorem one_name (c : UInt8) (h : okb c = true) : nameB ⟨#[c]⟩ := by
  refine ⟨Nat.le_refl 1, (show 1 ≤ 16 by decide), fun i hi => ?_⟩
  have : i = 0 := by
    have : i < 1 := hi
    omega
  subst this
  exact h
theorem not_name : ¬ nameB ⟨#[]⟩ := fun h => absurd h.1 (by decide)
theorem may_x (n : Int) (h : 0 ≤ n ∧ n ≤ 1099511627776) : mayM ⟨gS, aS, 0, n⟩ := ⟨one_name 103 (by decide), one_name 97 (by decide), (show numB 0 from ⟨by decide, by decide⟩), h⟩
theorem putE_at {S : List Mrk} {m : Mrk} {v : Int} (hm : mayM m) (hg : (getS S m.key).getD 0 = v) : putE S m = if m.off < v then 120 else 0 := by
  unfold putE
  rw [if_neg (not_not_intro hm), hg]
theorem f1 : putE [] x5 = 0 := putE_at (v := 0) (may_x 5 (by decide)) rfl
theorem f2 : putR [] x5 = [x5] := by unfold putR; rw [if_pos f1]; rfl
theorem g5 : getS [x5] x4.key = some 5 := by
  unfold getS
  rw [List.find?_cons_of_pos (by simp [Mrk.key])]
  rfl
theorem f3 : putE [x5] x4 = 120 := (putE_at (v := 5) (may_x 4 (by decide)) (by rw [g5]; rfl)).trans rfl
theorem f4 : putR [x5] x4 = [x5] := by unfold putR; rw [if_neg (by rw [f3]; decide)]
theorem f5 (S : List Mrk) : putE S e0 = 1 := by unfold putE; rw [if_pos (fun h => not_name h.1)]
theorem f6 (S : List Mrk) : putR S e0 = S := by unfold putR; rw [if_neg (by rw [f5]; decide)]
theorem f7 : raiseV [x5] pA 7 = 1 := by
  unfold raiseV raiseN
  rw [if_neg (by decide)]
  simp
theorem f8 : raiseT [x5] pA 7 = [x7] := by
  unfold raiseT raiseS raise1
  rw [if_neg (by decide)]
  simp
theorem f9 : getS [x7] ⟨gS, pA.topic, pA.n⟩ = some 7 := by
  unfold getS
  rw [List.find?_cons_of_pos (by simp [Mrk.key])]
  rfl
theorem f10 : getS [x7] ⟨hS, pA.topic, pA.n⟩ = none := by
  unfold getS
  rw [List.find?_cons_of_neg]
  · rfl
  · simp [Mrk.key]
theorem f11 : loadE [x7] = 0 := by
  unfold loadE
  rw [if_pos]
  intro i h
  have : i = 0 := by simp at h; omega
  subst this
  exact ⟨may_x 7 (by decide), fun h => absurd h (by decide)⟩
theorem f12 : loadE [z0] = 1 := by
  unfold loadE
  rw [if_neg]
  intro h
  exact not_name (h 0 (by simp)).1.1
theorem f13 : dropN [x7] gS = 1 := by unfold dropN; simp
theorem f14 : dropS [x7] gS = [] := by unfold dropS; simp
theorem pLoad_ok (w0 : World) (a : Option Addr) (c0 : Nat) (l : List Mrk) (hl : Sl w0 a l) (hlen : l.length ≤ 100000) (h0 : loadE l = 0) :
    Ct Try.prog 10 #[.slice a l.length c0] w0 fun v w' => (∃ i m, v = .tuple #[.pointer (some ⟨i, 0, none⟩), .int .i64 0] ∧ Tb w0.heap.size w' i m l) ∧ Ext w0 w' :=
  (pLoad w0 a c0 l hl hlen).mono fun v w' ⟨h, hx⟩ => ⟨h.elim (fun h => h.2) (fun h => by rw [h0] at h; exact absurd h.1 (by decide)), hx⟩
theorem pLoad_no (w0 : World) (a : Option Addr) (c0 : Nat) (l : List Mrk) (hl : Sl w0 a l) (hlen : l.length ≤ 100000) (h0 : loadE l = 1) :
    Ct Try.prog 10 #[.slice a l.length c0] w0 fun v w' => v = .tuple #[.pointer none, .int .i64 1] ∧ Ext w0 w' :=
  (pLoad w0 a c0 l hl hlen).mono fun v w' ⟨h, hx⟩ => ⟨h.elim (fun h => by rw [h0] at h; exact absurd h.1 (by decide)) (fun h => h.2), hx⟩
theorem numB_le {n : Int} (h : numB n) : 0 ≤ n := h.1
set_option maxRecDepth 20000 in
set_option maxHeartbeats 1600000 in
theorem lFixed (w0 : World) :
    Ct Try.prog 14 #[] w0 fun v w' => v = .bool true ∧ Ext w0 w' := by
  refine Ct.intro1 Try.func14 Try.ntmps14 rfl rfl (by decide) rfl ?_
  have H : Ext w0 w0 := Ext.refl w0
  refine WP.regionS ?_
  refine RL.r (asgB rfl) rfl ?_
  refine RL.nil ?_
  refine WP.regionS ?_
  -- call stagecoach/offsets.New 
  refine RL.call (pNew _) rfl rfl ?_
  rintro v w1 ⟨⟨i, m, rfl, hT⟩, hx⟩
  replace H := H.ext hx
  refine RL.r (bld rfl rfl) rfl ?_
  refine RL.alloc w0.heap.size H.size rfl rfl ?_
  intro w2 i2 hi2 hx hb2
  refine RL.r (asgP rfl) rfl ?_
  refine RL.storeS rfl hb2 rfl rfl rfl rfl ?_
  intro w3 hu hb2
  replace hx := hx.box hu (Nat.le_of_eq hi2.symm)
  replace H := H.ext hx; replace hT := hT.ext hx; clear hx hu
  refine RL.nil ?_
  refine WP.seq ?_
  refine WP.regionS ?_
  refine RL.r (mvP rfl) rfl ?_
  refine RL.r (peqn rfl rfl) rfl ?_
  refine RL.nil ?_
  refine WP.cond rfl (fun hc => ?_) (fun hc => ?_)
  · refine WP.regionS ?_
    refine RL.r (asgB rfl) rfl ?_
    refine RL.nil ?_
    refine WP.ret ?_
    refine fin1_ret rfl ⟨absurd hc (by simp), H⟩
  · refine WP.skip ?_
    refine WP.seq ?_
    refine WP.cut (α := Unit) [3, 4, 21, 22, 23, 24, 25, 26, 27, 28] (fun x => [(3, .int .i64 0), (4, .int .i64 120)]) (fun x w' => Ext w0 w' ∧ Box w0.heap.size w' i2 24 (Lies.enc pA) ∧ Tb w0.heap.size w' i m [x5]) ?_ ?_
    · refine WP.any ?_
      intro w4 hx; replace H := H.ext hx; replace hb2 := hb2.ext hx; replace hT := hT.ext hx
      refine AL.p 0 (by kernel_rfl) rfl (mvP rfl) rfl ?_
      refine AL.p 4 (by kernel_rfl) rfl (mvP rfl) rfl ?_
      refine AL.m 1 (by kernel_rfl) rfl (ldS_box rfl hb2 (Nat.le_of_ble_eq_true rfl) rfl) rfl ?_
      refine AL.p 2 (by kernel_rfl) rfl (bld rfl rfl) rfl ?_
      refine AL.all (rs := [3, 5]) (by kernel_rfl) rfl ?_
      rintro i hi; simp only [List.mem_cons, List.not_mem_nil, or_false] at hi; rcases hi with rfl | rfl
      · refine ⟨_, rfl, ?_⟩
        -- call (*stagecoach/offsets.Table).Put (tmp 21) (tmp 23)
        refine RL.call (by have h := pPut _ _ i m [] x5 hT; rw [f1] at h; exact h) rfl rfl ?_
        rintro _ w5 ⟨⟨rfl, hT2⟩, hx⟩
        replace H := H.mp hx hT.old; replace hb2 := hb2.upd hx (hT.neb hb2)
        rw [f2] at hT2
        replace hT := hT2; clear hT2
        refine RL.nil ?_
        refine AL.m 5 (by kernel_rfl) rfl (ldS_box rfl hb2 (Nat.le_of_ble_eq_true rfl) rfl) rfl ?_
        refine AL.p 6 (by kernel_rfl) rfl (bld rfl rfl) rfl ?_
        refine AL.o 7 (by kernel_rfl) rfl ?_
        -- call (*stagecoach/offsets.Table).Put (tmp 25) (tmp 27)
        refine RL.call (by have h := pPut _ _ i m [x5] x4 hT; rw [f3] at h; exact h) rfl rfl ?_
        rintro _ w6 ⟨⟨rfl, hT2⟩, hx⟩
        replace H := H.mp hx hT.old; replace hb2 := hb2.upd hx (hT.neb hb2)
        rw [f4] at hT2
        replace hT := hT2; clear hT2
        refine RL.nil ?_
        refine AL.p 8 (by kernel_rfl) rfl (asgI rfl) rfl ?_
        refine AL.p 9 (by kernel_rfl) rfl (asgI rfl) rfl ?_
        refine AL.nil (by kernel_rfl) ?_
        refine ⟨(), Head.intro (by repeat (first | with_reducible exact AgreeOff.refl _ _ | with_reducible exact AgreeOff.mix _ _ _ | refine AgreeOff.look rfl ?_ | refine AgreeOff.mixs rfl ?_)) ⟨rfl, rfl, trivial⟩, H, hb2, hT⟩
      · refine ⟨_, rfl, ?_⟩
        refine RL.m (ldS_box rfl hb2 (Nat.le_of_ble_eq_true rfl) rfl) rfl ?_
        refine RL.nil ?_
        refine AL.p 6 (by kernel_rfl) rfl (bld rfl rfl) rfl ?_
        refine AL.o 3 (by kernel_rfl) rfl ?_
        -- call (*stagecoach/offsets.Table).Put (tmp 21) (tmp 23)
        refine RL.call (by have h := pPut _ _ i m [] x5 hT; rw [f1] at h; exact h) rfl rfl ?_
        rintro _ w7 ⟨⟨rfl, hT2⟩, hx⟩
        replace H := H.mp hx hT.old; replace hb2 := hb2.upd hx (hT.neb hb2)
        rw [f2] at hT2
        replace hT := hT2; clear hT2
        refine RL.nil ?_
        refine AL.o 7 (by kernel_rfl) rfl ?_
        -- call (*stagecoach/offsets.Table).Put (tmp 25) (tmp 27)
        refine RL.call (by have h := pPut _ _ i m [x5] x4 hT; rw [f3] at h; exact h) rfl rfl ?_
        rintro _ w8 ⟨⟨rfl, hT2⟩, hx⟩
        replace H := H.mp hx hT.old; replace hb2 := hb2.upd hx (hT.neb hb2)
        rw [f4] at hT2
        replace hT := hT2; clear hT2
        refine RL.nil ?_
        refine AL.p 8 (by kernel_rfl) rfl (asgI rfl) rfl ?_
        refine AL.p 9 (by kernel_rfl) rfl (asgI rfl) rfl ?_
        refine AL.nil (by kernel_rfl) ?_
        refine ⟨(), Head.intro (by repeat (first | with_reducible exact AgreeOff.refl _ _ | with_reducible exact AgreeOff.mix _ _ _ | refine AgreeOff.look rfl ?_ | refine AgreeOff.mixs rfl ?_)) ⟨rfl, rfl, trivial⟩, H, hb2, hT⟩
    rintro _ jc w9 ⟨H, hb2, hT⟩
    refine WP.regionS ?_
    refine RL.r (mvP rfl) rfl ?_
    refine RL.m (ldS_box rfl hb2 (Nat.le_of_ble_eq_true rfl) rfl) rfl ?_
    refine RL.r (bld rfl rfl) rfl ?_
    -- call (*stagecoach/offsets.Table).Put (tmp 29) (tmp 31)
    refine RL.call (by have h := pPut _ _ i m [x5] e0 hT; rw [f5] at h; exact h) rfl rfl ?_
    rintro _ w10 ⟨⟨rfl, hT2⟩, hx⟩
    replace H := H.mp hx hT.old; replace hb2 := hb2.upd hx (hT.neb hb2)
    rw [f6] at hT2
    replace hT := hT2; clear hT2
    refine RL.r (asgI rfl) rfl ?_
    refine RL.nil ?_
    refine WP.regionS ?_
    refine RL.r (mvP rfl) rfl ?_
    refine RL.m (ldS_box rfl hb2 (Nat.le_of_ble_eq_true rfl) rfl) rfl ?_
    -- call (*stagecoach/offsets.Table).Raise (tmp 33) (tmp 34) (const (int i64 7))
    refine RL.call (by have h := pRaise _ _ i m [x5] pA 7 hT (by simp); rw [f7] at h; exact h) rfl rfl ?_
    rintro _ w11 ⟨⟨rfl, hT2⟩, hx⟩
    replace H := H.mp hx hT.old; replace hb2 := hb2.upd hx (hT.neb hb2)
    rw [f8] at hT2
    replace hT := hT2; clear hT2
    refine RL.r (asgI rfl) rfl ?_
    refine RL.nil ?_
    refine WP.regionS ?_
    refine RL.r (mvP rfl) rfl ?_
    refine RL.m (ldS_box rfl hb2 (Nat.le_of_ble_eq_true rfl) rfl) rfl ?_
    -- call (*stagecoach/offsets.Table).Get (tmp 37) (const (string {data:#[103]})) (tmp 38)
    refine RL.call (by have h := pGet _ _ i m [x7] gS pA hT; rw [f9] at h; exact h) rfl rfl ?_
    rintro _ w12 ⟨rfl, hx⟩
    replace H := H.ext hx; replace hb2 := hb2.ext hx; replace hT := hT.ext hx
    refine RL.r (mvU rfl) rfl ?_
    refine RL.r (ex0 rfl) rfl ?_
    refine RL.r (ex1 rfl) rfl ?_
    refine RL.r (asgI rfl) rfl ?_
    refine RL.r (asgB rfl) rfl ?_
    refine RL.nil ?_
    refine WP.regionS ?_
    refine RL.r (mvP rfl) rfl ?_
    refine RL.m (ldS_box rfl hb2 (Nat.le_of_ble_eq_true rfl) rfl) rfl ?_
    -- call (*stagecoach/offsets.Table).Behind (tmp 42) (const (string {data:#[103]})) (tmp 43) (const (int i64 10))
    refine RL.call (by have h := pBehind _ _ i m [x7] gS pA 10 hT; rw [f9, if_pos (by decide)] at h; exact h) rfl rfl ?_
    rintro _ w13 ⟨rfl, hx⟩
    replace H := H.ext hx; replace hb2 := hb2.ext hx; replace hT := hT.ext hx
    refine RL.r (asgI rfl) rfl ?_
    refine RL.nil ?_
    refine WP.regionS ?_
    refine RL.r (mvP rfl) rfl ?_
    refine RL.m (ldS_box rfl hb2 (Nat.le_of_ble_eq_true rfl) rfl) rfl ?_
    -- call (*stagecoach/offsets.Table).Get (tmp 46) (const (string {data:#[104]})) (tmp 47)
    refine RL.call (by have h := pGet _ _ i m [x7] hS pA hT; rw [f10] at h; exact h) rfl rfl ?_
    rintro _ w14 ⟨rfl, hx⟩
    replace H := H.ext hx; replace hb2 := hb2.ext hx; replace hT := hT.ext hx
    refine RL.r (mvU rfl) rfl ?_
    refine RL.r (ex0 rfl) rfl ?_
    refine RL.r (ex1 rfl) rfl ?_
    refine RL.r (asgI rfl) rfl ?_
    refine RL.r (asgB rfl) rfl ?_
    refine RL.nil ?_
    refine WP.regionS ?_
    refine RL.r (mvP rfl) rfl ?_
    -- call (*stagecoach/offsets.Table).List (tmp 52)
    refine RL.call (pList _ _ i m [x7] hT (by simp)) rfl rfl ?_
    rintro _ w15 ⟨⟨a53, c53, rfl, hO⟩, hx⟩
    replace H := H.ext hx; replace hb2 := hb2.ext hx; replace hT := hT.ext hx
    -- call stagecoach/offsets.Load (tmp 53)
    refine RL.call (pLoad_ok _ a53 c53 [x7] hO.sl (by simp) f11) rfl rfl ?_
    rintro _ w16 ⟨⟨i9, m9, rfl, _⟩, hx⟩
    replace H := H.ext hx; replace hb2 := hb2.ext hx; replace hT := hT.ext hx
    refine RL.r (mvU rfl) rfl ?_
    refine RL.r (ex0 rfl) rfl ?_
    refine RL.r (ex1 rfl) rfl ?_
    refine RL.r (asgP rfl) rfl ?_
    refine RL.r (asgI rfl) rfl ?_
    refine RL.nil ?_
    refine WP.regionS ?_
    refine RL.r (bld rfl rfl) rfl ?_
    refine RL.buildSlice w0.heap.size H.size rfl rfl rfl rfl rfl ?_
    intro w17 i59 hi59 hx hb59
    replace H := H.ext hx; replace hb2 := hb2.ext hx; replace hT := hT.ext hx; clear hx
    -- call stagecoach/offsets.Load (tmp 59)
    refine RL.call (pLoad_no _ _ 1 [z0] (Box.sl1 hb59) (by simp) f12) rfl rfl ?_
    rintro _ w18 ⟨rfl, hx⟩
    replace H := H.ext hx; replace hb2 := hb2.ext hx; replace hT := hT.ext hx; replace hb59 := hb59.ext hx
    refine RL.r (mvU rfl) rfl ?_
    refine RL.r (ex0 rfl) rfl ?_
    refine RL.r (ex1 rfl) rfl ?_
    refine RL.r (asgP rfl) rfl ?_
    refine RL.r (asgI rfl) rfl ?_
    refine RL.nil ?_
    refine WP.regionS ?_
    refine RL.r (mvP rfl) rfl ?_
    -- call (*stagecoach/offsets.Table).Drop (tmp 63) (const (string {data:#[103]}))
    refine RL.call (by have h := pDrop _ _ i m [x7] gS hT (by simp); rw [f13] at h; exact h) rfl rfl ?_
    rintro _ w19 ⟨⟨rfl, hT2⟩, hx⟩
    replace H := H.mp hx hT.old; replace hb2 := hb2.upd hx (hT.neb hb2)
    rw [f14] at hT2
    replace hT := hT2; clear hT2
    refine RL.r (asgI rfl) rfl ?_
    refine RL.nil ?_
    refine WP.regionS ?_
    refine RL.r (mvI rfl) rfl ?_
    refine RL.r (eql rfl rfl) rfl ?_
    refine RL.mvT rfl (by first | rfl | exact Option.some_ne_none _ | decide) rfl ?_
    refine RL.yes rfl rfl rfl ?_
    refine RL.r (mvI rfl) rfl ?_
    refine RL.yes rfl rfl rfl ?_
    refine RL.r (eql rfl rfl) rfl ?_
    refine RL.r (pickT rfl) rfl ?_
    refine RL.mvT rfl (by first | rfl | exact Option.some_ne_none _ | decide) rfl ?_
    refine RL.yes rfl rfl rfl ?_
    refine RL.r (mvI rfl) rfl ?_
    refine RL.yes rfl rfl rfl ?_
    refine RL.r (eql rfl rfl) rfl ?_
    refine RL.r (pickT rfl) rfl ?_
    refine RL.mvT rfl (by first | rfl | exact Option.some_ne_none _ | decide) rfl ?_
    refine RL.yes rfl rfl rfl ?_
    refine RL.r (mvI rfl) rfl ?_
    refine RL.yes rfl rfl rfl ?_
    refine RL.r (eql rfl rfl) rfl ?_
    refine RL.r (pickT rfl) rfl ?_
    refine RL.mvT rfl (by first | rfl | exact Option.some_ne_none _ | decide) rfl ?_
    refine RL.yes rfl rfl rfl ?_
    refine RL.r (mvI rfl) rfl ?_
    refine RL.yes rfl rfl rfl ?_
    refine RL.r (eql rfl rfl) rfl ?_
    refine RL.r (pickT rfl) rfl ?_
    refine RL.mvT rfl (by first | rfl | exact Option.some_ne_none _ | decide) rfl ?_
    refine RL.yes rfl rfl rfl ?_
    refine RL.r (mvB rfl) rfl ?_
    refine RL.r (pickT rfl) rfl ?_
    refine RL.mvT rfl (by first | rfl | exact Option.some_ne_none _ | decide) rfl ?_
    refine RL.yes rfl rfl rfl ?_
    refine RL.r (mvI rfl) rfl ?_
    refine RL.yes rfl rfl rfl ?_
    refine RL.r (eql rfl rfl) rfl ?_
    refine RL.r (pickT rfl) rfl ?_
    refine RL.mvT rfl (by first | rfl | exact Option.some_ne_none _ | decide) rfl ?_
    refine RL.yes rfl rfl rfl ?_
    refine RL.r (mvB rfl) rfl ?_
    refine RL.yes rfl rfl rfl ?_
    first | refine RL.r (notD rfl) rfl ?_ | refine RL.r (not_ rfl) rfl ?_
    refine RL.r (pickT rfl) rfl ?_
    refine RL.mvT rfl (by first | rfl | exact Option.some_ne_none _ | decide) rfl ?_
    refine RL.yes rfl rfl rfl ?_
    refine RL.r (mvP rfl) rfl ?_
    refine RL.yes rfl rfl rfl ?_
    refine RL.r (pneqn rfl rfl) rfl ?_
    refine RL.r (pickT rfl) rfl ?_
    refine RL.mvT rfl (by first | rfl | exact Option.some_ne_none _ | decide) rfl ?_
    refine RL.yes rfl rfl rfl ?_
    refine RL.r (mvI rfl) rfl ?_
    refine RL.yes rfl rfl rfl ?_
    refine RL.r (eql rfl rfl) rfl ?_
    refine RL.r (pickT rfl) rfl ?_
    refine RL.mvT rfl (by first | rfl | exact Option.some_ne_none _ | decide) rfl ?_
    refine RL.yes rfl rfl rfl ?_
    refine RL.r (mvI rfl) rfl ?_
    refine RL.yes rfl rfl rfl ?_
    refine RL.r (eql rfl rfl) rfl ?_
    refine RL.r (pickT rfl) rfl ?_
    refine RL.mvT rfl (by first | rfl | exact Option.some_ne_none _ | decide) rfl ?_
    refine RL.yes rfl rfl rfl ?_
    refine RL.r (mvI rfl) rfl ?_
    refine RL.yes rfl rfl rfl ?_
    refine RL.r (eql rfl rfl) rfl ?_
    refine RL.r (pickT rfl) rfl ?_
    refine RL.mvT rfl (by first | rfl | exact Option.some_ne_none _ | decide) rfl ?_
    refine RL.yes rfl rfl rfl ?_
    refine RL.r (mvP rfl) rfl ?_
    refine RL.yes rfl rfl rfl ?_
    -- call (*stagecoach/offsets.Table).List (tmp 111)
    refine RL.call (pList _ _ i m [] hT (by simp)) rfl rfl ?_
    rintro _ w20 ⟨⟨a54, c54, rfl, hO⟩, hx⟩
    replace H := H.ext hx; replace hb2 := hb2.ext hx; replace hT := hT.ext hx
    refine RL.yes rfl rfl rfl ?_
    refine RL.r (len_sl rfl) rfl ?_
    refine RL.yes rfl rfl rfl ?_
    refine RL.r (eql rfl rfl) rfl ?_
    refine RL.r (pickT rfl) rfl ?_
    refine RL.mvT rfl (by first | rfl | exact Option.some_ne_none _ | decide) rfl ?_
    refine RL.yes rfl rfl rfl ?_
    refine RL.r (mvP rfl) rfl ?_
    refine RL.yes rfl rfl rfl ?_
    refine RL.m (ldS_box rfl hb2 (Nat.le_of_ble_eq_true rfl) rfl) rfl ?_
    refine RL.yes rfl rfl rfl ?_
    -- call (*stagecoach/offsets.Table).Behind (tmp 117) (const (string {data:#[103]})) (tmp 118) (const (int i64 10))
    refine RL.call (by have h := pBehind _ _ i m [] gS pA 10 hT; rw [if_pos (by decide)] at h; exact h) rfl rfl ?_
    rintro _ w21 ⟨rfl, hx⟩
    replace H := H.ext hx; replace hb2 := hb2.ext hx; replace hT := hT.ext hx
    refine RL.yes rfl rfl rfl ?_
    refine RL.r (eql rfl rfl) rfl ?_
    refine RL.r (pickT rfl) rfl ?_
    refine RL.r (asgB rfl) rfl ?_
    refine RL.nil ?_
    refine WP.ret ?_
    refine fin1_ret rfl ⟨rfl, H⟩
theorem lFixedD (w0 : World) : Ct Try.prog 14 #[] w0 fun v w' => v = .bool (decide ((0 : Nat) = 0)) ∧ Ext w0 w' :=
  (lFixed w0).mono fun v w' ⟨h, hx⟩ => ⟨by rw [h]; rfl, hx⟩
end Go.Proofs.Ytmjamhgihbapjaa
