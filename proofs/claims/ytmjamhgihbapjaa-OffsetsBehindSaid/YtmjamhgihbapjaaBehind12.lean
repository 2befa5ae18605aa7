/-
  OffsetsBehind: the walk.
-/
import Derived.Test.YtmjamhgihbapjaaLoads12
set_option linter.unusedVariables false
namespace Go.Proofs.Ytmjamhgihbapjaa
open Go Go.Eng Go.RowKit
abbrev tS : ByteArray := ⟨#[116]⟩
abbrev pT : Part := ⟨tS, 0⟩
theorem getS_one {m : Mrk} : getS [m] m.key = some m.off := by
  unfold getS
  rw [List.find?_cons_of_pos (by simp)]
  rfl
theorem getS_one' {g t : ByteArray} {n o : Int} : getS [⟨g, t, n, o⟩] ⟨g, t, n⟩ = some o := getS_one (m := ⟨g, t, n, o⟩)
theorem getS_one_no {m : Mrk} {k : MKey} (h : m.key ≠ k) : getS [m] k = none := by
  unfold getS
  rw [List.find?_cons_of_neg (by simpa using h)]
  rfl
theorem put_one (m : Mrk) (hm : mayM m) : putE [] m = 0 ∧ putR [] m = [m] := by
  have h : putE [] m = 0 := by
    rw [putE_at (v := 0) hm rfl, if_neg]
    have := hm.2.2.2.1
    omega
  exact ⟨h, by unfold putR; rw [if_pos h]; rfl⟩
theorem getS_nil (k : MKey) : getS [] k = none := rfl
theorem num24 (a : Int) : numB ((and24v a : Nat) : Int) := ⟨by omega, by have := and24v_le a; omega⟩
theorem lBehind (w0 : World) (a b : Int) :
    Ct Try.prog 7 #[.int .i64 a, .int .i64 b] w0 fun v w' => v = .bool true ∧ Ext w0 w' := by
  refine Ct.intro1 Try.func7 Try.ntmps7 rfl rfl (by decide) rfl ?_
  have H : Ext w0 w0 := Ext.refl w0
  refine WP.regionS ?_
  refine RL.r (asgB rfl) rfl ?_
  refine RL.nil ?_
  refine WP.regionS ?_
  -- call stagecoach/offsets.New 
  refine RL.call (pNew _) rfl rfl ?_
  rintro v w1 ⟨⟨i, m, rfl, hT⟩, hx⟩
  replace H := H.ext hx
  refine RL.r (bld rfl rfl) rfl ?_
  refine RL.alloc w0.heap.size H.size rfl rfl ?_
  intro w2 i6 hi6 hx hb6
  refine RL.r (asgP rfl) rfl ?_
  refine RL.storeS rfl hb6 rfl rfl rfl rfl ?_
  intro w3 hu hb6
  replace hx := hx.box hu (Nat.le_of_eq hi6.symm)
  replace H := H.ext hx; replace hT := hT.ext hx; clear hx hu
  refine RL.nil ?_
  refine WP.seq ?_
  refine WP.regionS ?_
  refine RL.r (mvP rfl) rfl ?_
  refine RL.r (peqn rfl rfl) rfl ?_
  refine RL.nil ?_
  refine WP.cond rfl (fun hc => ?_) (fun hc => ?_)
  · refine WP.regionS ?_
    refine RL.r (asgB rfl) rfl ?_
    refine RL.nil ?_
    refine WP.ret ?_
    refine fin1_ret rfl ⟨absurd hc (by simp), H⟩
  · refine WP.skip ?_
    refine WP.regionS ?_
    refine RL.r (mvI rfl) rfl ?_
    refine RL.r (and24 rfl rfl) rfl ?_
    refine RL.r (mvI rfl) rfl ?_
    refine RL.r (and24 rfl rfl) rfl ?_
    refine RL.r (asgI rfl) rfl ?_
    refine RL.r (asgI rfl) rfl ?_
    refine RL.nil ?_
    refine WP.regionS ?_
    refine RL.r (mvP rfl) rfl ?_
    refine RL.m (ldS_box rfl hb6 (Nat.le_of_ble_eq_true rfl) rfl) rfl ?_
    refine RL.r (mvI rfl) rfl ?_
    -- call (*stagecoach/offsets.Table).Behind (tmp 20) (const (string {data:#[103]})) (tmp 21) (tmp 22)
    have hX := and24v_le a
    have hY := and24v_le b
    generalize hxe : ((and24v a : Nat) : Int) = x
    generalize hye : ((and24v b : Nat) : Int) = y
    have hnx : numB x := hxe ▸ num24 a
    have hny : numB y := hye ▸ num24 b
    have hx1 := hnx.1
    have hx2 := hnx.2
    have hy1 := hny.1
    have hy2 := hny.2
    have hmay : mayM ⟨gS, tS, 0, x⟩ := ⟨one_name 103 (by decide), one_name 116 (by decide), (show numB 0 from ⟨by decide, by decide⟩), hnx⟩
    have hone := put_one ⟨gS, tS, 0, x⟩ hmay
    refine RL.call (by have h := pBehind _ _ i m [] gS pT y hT; rw [if_pos hny] at h; exact h) rfl rfl ?_
    rintro _ w4 ⟨rfl, hx⟩
    replace H := H.ext hx; replace hb6 := hb6.ext hx; replace hT := hT.ext hx
    refine RL.r (asgI rfl) rfl ?_
    refine RL.nil ?_
    refine WP.regionS ?_
    refine RL.r (mvP rfl) rfl ?_
    refine RL.m (ldS_box rfl hb6 (Nat.le_of_ble_eq_true rfl) rfl) rfl ?_
    refine RL.r (mvI rfl) rfl ?_
    refine RL.r (bld rfl rfl) rfl ?_
    -- call (*stagecoach/offsets.Table).Put (tmp 24) (tmp 27)
    refine RL.call (by have h := pPut _ _ i m [] ⟨gS, tS, 0, x⟩ hT; rw [hone.1] at h; exact h) rfl rfl ?_
    rintro _ w5 ⟨⟨rfl, hT2⟩, hx⟩
    replace H := H.mp hx hT.old; replace hb6 := hb6.upd hx (hT.neb hb6)
    rw [hone.2] at hT2
    replace hT := hT2; clear hT2
    refine RL.r (asgI rfl) rfl ?_
    refine RL.nil ?_
    refine WP.regionS ?_
    refine RL.r (mvP rfl) rfl ?_
    refine RL.m (ldS_box rfl hb6 (Nat.le_of_ble_eq_true rfl) rfl) rfl ?_
    refine RL.r (mvI rfl) rfl ?_
    -- call (*stagecoach/offsets.Table).Behind (tmp 29) (const (string {data:#[103]})) (tmp 30) (tmp 31)
    have hT0 := hT
    have HT := Ext.refl w5
    refine RL.call (by have h := pBehind _ _ i m _ gS pT y hT; rw [if_pos hny, getS_one'] at h; exact h) rfl rfl ?_
    rintro _ w6 ⟨rfl, hx⟩
    replace H := H.ext hx; replace hb6 := hb6.ext hx; replace hT := hT.ext hx
    refine RL.r (asgI rfl) rfl ?_
    refine RL.nil ?_
    refine WP.seq (WP.quiet ?_)
    refine QL.r (mvI rfl) rfl ?_
    refine QL.r (mvI rfl) rfl ?_
    refine QL.r (eql rfl rfl) rfl ?_
    refine QL.r (mvB rfl) rfl ?_
    refine QL.gg (gwT rfl rfl) (fun hg => (mvI rfl).does _) rfl ?_
    refine QL.gg (gwT rfl rfl) (fun hg => (eql (gs hg rfl) rfl).does _) rfl ?_
    refine QL.r (pickAnd rfl (fun hn => gs hn rfl)) rfl ?_
    refine QL.r (mvB rfl) rfl ?_
    refine QL.gg (gwT rfl rfl) (fun hg => (mvI rfl).does _) rfl ?_
    refine QL.gg (gwT rfl rfl) (fun hg => (mvI rfl).does _) rfl ?_
    refine QL.gg (gwT rfl rfl) (fun hg => (mvI rfl).does _) rfl ?_
    refine QL.gg (gwT rfl rfl) (fun hg => (sub (gs hg rfl) (gs hg rfl) (by omega)).does _) rfl ?_
    refine QL.gg (gwT rfl rfl) (fun hg => (max_i rfl (gs hg rfl)).does _) rfl ?_
    refine QL.gg (gwT rfl rfl) (fun hg => (eql (gs hg rfl) (gs hg rfl)).does _) rfl ?_
    refine QL.r (pickAnd rfl (fun hn => gs hn rfl)) rfl ?_
    refine QL.r (mvB rfl) rfl ?_
    refine QL.gg (gwT rfl rfl) (fun hg => (mvP rfl).does _) rfl ?_
    refine QL.gg (gwT rfl rfl) (fun hg => ldS_box rfl hb6 (Nat.le_of_ble_eq_true rfl) rfl) rfl ?_
    refine QL.gg (gwT rfl rfl) (fun hg => (mvI rfl).does _) rfl ?_
    -- call (*stagecoach/offsets.Table).Behind (tmp 49) (const (string {data:#[103]})) (tmp 50) (tmp 51)
    refine QL.gcall (gwT rfl rfl) (fun hg w' hw' => by have h := pBehind w' _ i m _ gS pT x ((hT.ext hw')); rw [if_pos hnx, getS_one'] at h; exact h) (fun hg => EvL.cons (gs hg rfl) (EvL.cons rfl (EvL.cons (gs hg rfl) (EvL.cons (gs hg rfl) (EvL.nil))))) rfl ?_
    refine QL.gg (gwT rfl rfl) (fun hg => (eql (gs hg rfl) rfl).does _) rfl ?_
    refine QL.r (pickAnd rfl (fun hn => gs hn rfl)) rfl ?_
    refine QL.r (mvB rfl) rfl ?_
    refine QL.gg (gwT rfl rfl) (fun hg => (mvP rfl).does _) rfl ?_
    refine QL.gg (gwT rfl rfl) (fun hg => ldS_box rfl hb6 (Nat.le_of_ble_eq_true rfl) rfl) rfl ?_
    refine QL.gg (gwT rfl rfl) (fun hg => (mvI rfl).does _) rfl ?_
    -- call (*stagecoach/offsets.Table).Behind (tmp 56) (const (string {data:#[104]})) (tmp 57) (tmp 58)
    refine QL.gcall (gwT rfl rfl) (fun hg w' hw' => by have h := pBehind w' _ i m _ hS pT y ((hT.ext hw')); rw [if_pos hny, getS_one_no (by simp [Mrk.key])] at h; exact h) (fun hg => EvL.cons (gs hg rfl) (EvL.cons rfl (EvL.cons (gs hg rfl) (EvL.cons (gs hg rfl) (EvL.nil))))) rfl ?_
    refine QL.gg (gwT rfl rfl) (fun hg => (mvI rfl).does _) rfl ?_
    refine QL.gg (gwT rfl rfl) (fun hg => (eql (gs hg rfl) (gs hg rfl)).does _) rfl ?_
    refine QL.r (pickAnd rfl (fun hn => gs hn rfl)) rfl ?_
    refine QL.r (mvB rfl) rfl ?_
    -- call stagecoach/stagecoachlaw12.fixed 
    refine QL.gcall (gwT rfl rfl) (fun hg w' hw' => lFixedD w') (fun hg => EvL.nil) rfl ?_
    refine QL.r (pickAnd rfl (fun hn => gs hn rfl)) rfl ?_
    refine QL.r (asgB rfl) rfl ?_
    refine QL.nil ?_; intro w10 hx; replace H := H.ext hx; replace hb6 := hb6.ext hx; replace hT := hT.ext hx
    refine WP.ret ?_
    refine fin1_ret rfl ⟨congrArg Value.bool (bT ?_).symm, H⟩
    simp only [Option.getD_none, Option.getD_some, getS_nil]
    exact ⟨⟨⟨⟨⟨by omega, trivial⟩, trivial⟩, by omega⟩, by omega⟩, trivial⟩
end Go.Proofs.Ytmjamhgihbapjaa
