/-
  Next: walks and laws, written by gen/gen.py out of gen/thy/Next.py.
-/
import Derived.Test.YtlkpgeopcdhgjaaPlan3
set_option linter.unusedVariables false
namespace Go.Proofs.Ytlkpgeopcdhgjaa
open Go Go.Eng Go.RowKit
noncomputable def nxtI (m : List Mem) (t : ByteArray) (p : Nat) : Int := match nxt m t p with
  | some i => (i : Int)
  | none => -1
theorem nxtI_some {m : List Mem} {t : ByteArray} {p i : Nat} (h : nxt m t p = some i) : nxtI m t p = (i : Int) := by unfold nxtI; rw [h]
theorem nxtI_none {m : List Mem} {t : ByteArray} {p : Nat} (h : nxt m t p = none) : nxtI m t p = -1 := by unfold nxtI; rw [h]
theorem pNext (w0 : World) (B B' im ip p : Nat) (t : ByteArray) (b : Option Addr) (d : Nat) (m : List Mem) (hbm : Box B w0 im 87 [.slice b m.length d]) (hbp : Box B' w0 ip 3 [.int .i64 (p : Int)]) (hm : Sl w0 b m) (hts : ∀ x ∈ m, Sl w0 x.ta x.topics ∧ x.topics.length ≤ 1000) (hm8 : m.length ≤ 8) (hp8 : p ≤ 1000) :
    Ct Try.prog 67 #[.string t, .pointer (some ⟨im, 0, none⟩), .pointer (some ⟨ip, 0, none⟩)] w0 fun v w' => v = .int .i64 (nxtI m t p) ∧ Ext w0 w' := by
  refine Ct.intro1 Try.func67 Try.ntmps67 rfl rfl (by decide) rfl ?_
  have H : Ext w0 w0 := Ext.refl w0
  refine WP.regionS ?_
  refine RL.r (asgI rfl) rfl ?_
  refine RL.nil ?_
  refine WP.seq ?_
  refine WP.regionS ?_
  refine RL.m (ld_box rfl hbm rfl) rfl ?_
  refine RL.r (len_sl rfl) rfl ?_
  refine RL.r (mvI rfl) rfl ?_
  refine RL.nil ?_
  refine WP.block ?_
  refine WP.loop (fun k e' w' => ∃ j : Nat,  j + k = m.length ∧ Head [4, 5, 6, 9, 10, 11, 12, 13, 14, 15, 16, 17, 18, 19, 20, 21, 22, 23, 24, 25] _ [(9, .int .i64 (j : Int))] e' ∧ Ext w0 w' ∧ Box B w' im 87 [.slice b m.length d] ∧ Box B' w' ip 3 [.int .i64 (p : Int)] ∧ ∀ n, n < j → ¬ wantsAt m ((p + n) % m.length) t) (m.length)
    ⟨0, by omega, Head.intro (AgreeOff.refl _ _) ⟨rfl, trivial⟩, H, hbm, hbp, fun n hn => by omega⟩ ?_
  clear H hbm hbp
  rintro k e w1 ⟨j, hjk, ⟨jk, rfl⟩, H, hbm, hbp, hok⟩
  refine WP.regionS ?_
  refine RL.r (lss rfl rfl) rfl ?_
  refine RL.nil ?_
  refine WP.seq ?_
  refine WP.cond rfl (fun hc => ?_) (fun hc => ?_)
  · refine WP.skip ?_
    refine WP.seq ?_
    refine WP.block ?_
    refine WP.regionS ?_
    refine RL.r (mvI rfl) rfl ?_
    refine RL.r (asgI rfl) rfl ?_
    refine RL.nil ?_
    refine WP.regionS ?_
    refine RL.m (ld_box rfl hbp rfl) rfl ?_
    refine RL.r (mvI rfl) rfl ?_
    refine RL.r (add rfl rfl (by omega)) rfl ?_
    refine RL.m (ld_box rfl hbm rfl) rfl ?_
    refine RL.r (len_sl rfl) rfl ?_
    refine RL.r (rem rfl rfl (by omega)) rfl ?_
    refine RL.r (asgI rfl) rfl ?_
    refine RL.nil ?_
    refine WP.regionS ?_
    refine RL.m (ld_box rfl hbm rfl) rfl ?_
    refine RL.r (mvI rfl) rfl ?_
    have hj : j < m.length := by omega
    have hq : (p + j) % m.length < m.length := Nat.mod_lt _ (by omega)
    obtain ⟨q, rfl⟩ := hm.isAddr (by decide) hq
    refine RL.r (ix rfl rfl (show ((p : Int) + (j : Int)) % ((m.length : Nat) : Int) = (((p + j) % m.length : Nat) : Int) by simp) hq) rfl ?_
    refine RL.m (ldS_el rfl hm H rfl rfl hq) rfl ?_
    refine RL.r (mvS rfl) rfl ?_
    -- call stagecoach/assign.Wants (tmp 21) (tmp 22)
    refine RL.call (pWants _ m[(p + j) % m.length] t ((hts _ (List.getElem_mem hq)).1.ext H) (hts _ (List.getElem_mem hq)).2) rfl rfl ?_
    rintro _ w2 ⟨rfl, hx⟩
    replace H := H.ext hx; replace hbm := hbm.ext hx; replace hbp := hbp.ext hx
    refine RL.nil ?_
    refine WP.cond rfl (fun hc => ?_) (fun hc => ?_)
    · refine WP.regionS ?_
      refine RL.r (mvI rfl) rfl ?_
      refine RL.r (asgI rfl) rfl ?_
      refine RL.nil ?_
      refine WP.ret ?_
      refine fin1_ret rfl ⟨intE ?_, H⟩
      rw [nxtI_some (nxt_some hj hok ((wantsAt_iff hq).2 hc))]
      simp
    · refine WP.skip ?_
      refine WP.region ?_
      refine RL.r (add rfl rfl (by omega)) rfl ?_
      refine RL.r (mvI rfl) rfl ?_
      refine RL.nil ?_
      refine ⟨k - 1, by omega, j + 1, by omega, Head.intro (by repeat (first | with_reducible exact AgreeOff.mix _ _ _ | refine AgreeOff.look rfl ?_ | refine AgreeOff.mixs rfl ?_)) ⟨rfl, trivial⟩, H, hbm, hbp, fun n hn => ?_⟩
      by_cases hnj : n < j
      · exact hok n hnj
      · obtain rfl : n = j := by omega
        exact fun h => hc ((wantsAt_iff hq).1 h)
  · refine WP.exit ?_
    refine WP.regionS ?_
    refine RL.r (asgI rfl) rfl ?_
    refine RL.nil ?_
    refine WP.ret ?_
    refine fin1_ret rfl ⟨intE (nxtI_none (nxt_no fun n hn => hok n (by omega))).symm, H⟩
end Go.Proofs.Ytlkpgeopcdhgjaa
