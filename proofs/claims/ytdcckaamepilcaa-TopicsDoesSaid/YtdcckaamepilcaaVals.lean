/-
  slices.Values at strings: the iterator's contract.
-/
import Derived.Test.YtdcckaamepilcaaSpec
import Derived.Test.YtdcckaamepilcaaSlt
import Derived.Test.YtdcckaamepilcaaPre
import Derived.Test.YtdcckaamepilcaaGrid
import Derived.Test.YtdcckaamepilcaaKeys
import Derived.Test.YtdcckaamepilcaaRf
import Derived.RangeFuncNested
import Derived.RangeFuncBound
import Derived.RangeFuncCalls
import Derived.RangeFuncLeaves
import Derived.RangeFuncBox
import Derived.Shelf.Abstract
import Derived.Shelf.RegionOpen
import Derived.WalkKit
import Derived.OwnWalkIn
import Derived.TacticsInMore
import Derived.LoopNIn
import Derived.LoopIn
set_option linter.unusedVariables false
namespace Go.Proofs.Ytdcckaamepilcaa
open Go Go.Eng Go.RowKit
attribute [local go_sem] Oper.semAt_some
/-- what has come when k rounds are over -/
def upto (zs : List ByteArray) (k : Nat) : List ByteArray := (List.range k).map fun j => zs[j]?.getD ByteArray.empty
theorem upto_succ (zs : List ByteArray) (k : Nat) : upto zs (k + 1) = upto zs k ++ [zs[k]?.getD ByteArray.empty] := by simp [upto, List.range_succ]
theorem upto_length (zs : List ByteArray) (k : Nat) : (upto zs k).length = k := by simp [upto]
theorem upto_take (zs : List ByteArray) {k : Nat} (hk : k ≤ zs.length) : upto zs k = zs.take k := by
  apply List.ext_getElem
  · simp [upto, hk]
  · intro i h1 h2
    have : i < zs.length := by simp [upto] at h1; omega
    simp [upto, this]
set_option maxRecDepth 100000 in
set_option maxHeartbeats 2000000 in
theorem values1_in (F : Fence) (n : Nat) (h7 : F.fn 45) (hro : F.round = none) (hn : 1 ≤ n) (l Bs n₀ b off len cap : Nat) (zs : List ByteArray) (hreach : len * 16 ≤ 140737488351232) (hb : b < n₀) (J Jx : List ByteArray → World → Prop)
    (hY : ∀ pre x W, J pre W → pre.length < len → YieldAt F (n - 1) Try.prog l #[.string x] W fun e W' =>
      (e = .returned (.bool true) ∧ J (pre ++ [x]) W' ∧ Below n₀ W W') ∨ (e = .returned (.bool false) ∧ Jx (pre ++ [x]) W'))
    (W : World) (hBs : W.cell? ⟨Bs, 0, none⟩ = some (.slice (some ⟨b, off, none⟩) len cap)) (hc : ∀ j, j < len → W.cell? ⟨b, off + j, none⟩ = some (.string (zs[j]?.getD ByteArray.empty))) (h0 : J [] W) :
    CallsIn F n Try.prog 45 #[.func (.yield l) #[] #[], .pointer (some ⟨Bs, 0, none⟩)] W fun e W' => (∃ v, e = .returned v) ∧
      ((∃ ys, ys = upto zs len ∧ J ys W') ∨ (∃ pre, (∃ k, k ≤ len ∧ pre = upto zs k) ∧ Jx pre W')) := by
  refine callsIn_of_wp Try.func45 rfl h7 ?_ hro
  simp only [Try.ntmps45, List.size_toArray, List.length_cons, List.length_nil, Nat.reduceAdd, Nat.reduceSub, Array.replicate_succ, Array.replicate_zero, List.push_toArray, List.append_toArray, List.nil_append, List.cons_append]
  gi_wp2
  gi_loopw [7] (fun i wr => ∃ k : Nat, k ≤ len ∧ i = .int .i64 k ∧ J (upto zs k) wr ∧ Below n₀ W wr)
    (fun i _ => len - (intOf i).toNat)
  case atStart => exact ⟨0, Nat.zero_le _, rfl, h0, Below.refl _ _⟩
  case round =>
    obtain ⟨k, hk, rfl, hJs, hnx⟩ := hrel
    have hcx : k < len → wr.cell? ⟨b, off + k, none⟩ = some (.string (zs[k]?.getD ByteArray.empty)) := fun h => (hnx.cell (p := ⟨b, off + k, none⟩) hb).trans (hc k h)
    by_cases hlt : k < len
    · obtain ⟨fn, tmps, assign, body, hy, hR⟩ := hY _ (zs[k]?.getD ByteArray.empty) wr hJs (by rw [upto_length]; exact hlt)
      have hcx' := hcx hlt
      gi_wp2
      refine hR.mono ?_
      rintro e W3 (⟨rfl, hJ3, hk3⟩ | ⟨rfl, hJx3⟩)
      · gi_wp2
        go_roundw
        case rel => exact ⟨k + 1, by omega, by simp, by rw [upto_succ]; exact hJ3, hnx.trans hk3⟩
        case measure => simp [intOf]; omega
      · gi_wp2
        refine bodyPost_ret (results_none rfl _ _ _) rfl ?_
        exact ⟨⟨_, rfl⟩, .inr ⟨_, ⟨k + 1, by omega, (upto_succ _ _).symm⟩, hJx3⟩⟩
    · obtain rfl : k = len := by omega
      gi_wp2
      go_end0
      exact ⟨⟨_, rfl⟩, .inl ⟨_, rfl, hJs⟩⟩
set_option maxRecDepth 100000 in
set_option maxHeartbeats 1000000 in
theorem values1_nil_in (F : Fence) (n : Nat) (h7 : F.fn 45) (hro : F.round = none) (l Bs : Nat) (J : List ByteArray → World → Prop) (W : World) (hBs : W.cell? ⟨Bs, 0, none⟩ = some (.slice none 0 0)) (h0 : J [] W) :
    CallsIn F n Try.prog 45 #[.func (.yield l) #[] #[], .pointer (some ⟨Bs, 0, none⟩)] W fun e W' => (∃ v, e = .returned v) ∧ J [] W' := by
  refine callsIn_of_wp Try.func45 rfl h7 ?_ hro
  simp only [Try.ntmps45, List.size_toArray, List.length_cons, List.length_nil, Nat.reduceAdd, Nat.reduceSub, Array.replicate_succ, Array.replicate_zero, List.push_toArray, List.append_toArray, List.nil_append, List.cons_append]
  gi_wp2
  gi_loopw [7] (fun i wr => i = .int .i64 0 ∧ J [] wr) (fun _ _ => 0)
  case atStart => exact ⟨rfl, h0⟩
  case round =>
    obtain ⟨rfl, hJs⟩ := hrel
    gi_wp2
    go_end0
    exact ⟨⟨_, rfl⟩, hJs⟩
/-- what slices.Values hands back stops when all have come -/
theorem values_stops (n : Nat) (hn : 1 ≤ n) (Bs n₀ B c : Nat) (a : Option Addr) (zs : List ByteArray) (hlen : zs.length ≤ 1000000) (w : World) (hBs : Bs < w.heap.size) (hn₀ : n₀ ≤ w.heap.size) (hc : w.cell? ⟨Bs, 0, none⟩ = some (.slice a zs.length c)) (ho : Eng.Own B w 9 a c zs) (hb : ∀ k, inBlock a k → k < n₀) :
    SeqStopsK Fence.wide n Try.prog 45 #[.pointer (some ⟨Bs, 0, none⟩)] (fun x : ByteArray => #[Value.string x]) (Below n₀) (fun ys => ys = zs) (fun pre => pre <+: zs) zs.length w := fun l J Jx W hW _ _ hY h0 => by
  have hc' := (hW.cell (p := ⟨Bs, 0, none⟩) hBs).trans hc
  rcases ho.cases with ⟨rfl, rfl, rfl⟩ | ⟨g, cur, rfl, _⟩
  · exact (values1_nil_in Fence.wide n trivial rfl l Bs J W hc' h0).mono fun e W' ⟨he, hj⟩ => ⟨he, .inl ⟨_, rfl, hj⟩⟩
  · have hg := hb g ⟨_, rfl, rfl⟩
    have hcs : ∀ j, j < zs.length → W.cell? ⟨g, 0 + j, none⟩ = some (.string (zs[j]?.getD ByteArray.empty)) := by
      intro j hj
      have h1 := ho.sl.cell hj (k := 0) (v := .string zs[j]) rfl
      have h2 : w.cell? ⟨g, 0 + j, none⟩ = some (.string zs[j]) := by
        have e : (⟨g, 0 + j, none⟩ : Addr) = Addr.add ⟨g, 0, none⟩ (j * Lies.sz ByteArray + 0) := by
          have hs1 : Lies.sz ByteArray = 1 := rfl
          rw [hs1]
          simp [Addr.add]
        rw [e]; exact h1
      rw [List.getElem?_eq_getElem hj]
      exact ((hW.mono hn₀).cell (p := ⟨g, 0 + j, none⟩) hg).trans h2
    refine (values1_in Fence.wide n trivial rfl hn l Bs n₀ g 0 zs.length c zs (by omega) hg J Jx hY W hc' hcs h0).mono ?_
    rintro e W' ⟨he, ⟨ys, rfl, hj⟩ | ⟨pre, ⟨k, hk, rfl⟩, hj⟩⟩
    · exact ⟨he, .inl ⟨_, by rw [upto_take zs (Nat.le_refl _), List.take_length], hj⟩⟩
    · exact ⟨he, .inr ⟨_, by rw [upto_take zs hk]; exact List.take_prefix _ _, hj⟩⟩
theorem pValues (w0 : World) (a : Option Addr) (len cap : Nat) :
    Ct Try.prog 35 #[.slice a len cap] w0 fun v w' => (∃ b, v = .func (.func 45) #[] #[.pointer (some ⟨b, 0, none⟩)] ∧ Box w0.heap.size w' b 42 [.slice a len cap]) ∧ Ext w0 w' := by
  refine Ct.intro1 Try.func35 Try.ntmps35 rfl rfl (by decide) rfl ?_
  have H : Ext w0 w0 := Ext.refl w0
  refine WP.regionS ?_
  refine RL.box1 w0.heap.size H.size rfl rfl rfl ?_
  intro w1 i1 hi1 hx hb1
  replace H := H.ext hx; clear hx
  refine RL.r (asg _) rfl ?_
  refine RL.nil ?_
  refine WP.regionS ?_
  refine RL.r (mkfn) rfl ?_
  refine RL.r (asg _) rfl ?_
  refine RL.nil ?_
  refine WP.ret ?_
  refine fin1_ret rfl ⟨⟨_, rfl, hb1⟩, H⟩
end Go.Proofs.Ytdcckaamepilcaa
