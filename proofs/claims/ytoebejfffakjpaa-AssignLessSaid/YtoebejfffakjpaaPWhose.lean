/-
  PWhose: walks and laws, written by gen/gen.py out of gen/thy/PWhose.py.
-/
import Derived.Test.YtoebejfffakjpaaPRange
set_option linter.unusedVariables false
namespace Go.Proofs.Ytoebejfffakjpaa
open Go Go.Eng Go.RowKit
theorem pWhose11 (w0 : World) (B ip : Nat) (p q : Part) (hbp : Box B w0 ip 27 (Lies.enc p)) :
    Ct Try.prog 32 #[.agg (Lies.enc q).toArray, .pointer (some ⟨ip, 0, none⟩)] w0 fun v w' => v = .bool (decide (q = p)) ∧ Ext w0 w' := by
  refine Ct.intro1 Try.func32 Try.ntmps32 rfl rfl (by decide) rfl ?_
  have H : Ext w0 w0 := Ext.refl w0
  refine WP.regionS ?_
  refine RL.boxS w0.heap.size H.size rfl rfl ?_
  intro w1 i2 hi2 hx hb2
  have nep_2 := hbp.ne hi2
  replace H := H.ext hx; replace hbp := hbp.ext hx; clear hx
  refine RL.r (asgB rfl) rfl ?_
  refine RL.nil ?_
  refine WP.regionS ?_
  refine RL.m (ldS_box rfl hb2 (Nat.le_of_ble_eq_true rfl) rfl) rfl ?_
  refine RL.m (ldS_box rfl hbp (Nat.le_of_ble_eq_true rfl) rfl) rfl ?_
  refine RL.r (aeql (α := Part) rfl rfl) rfl ?_
  refine RL.r (asgB rfl) rfl ?_
  refine RL.nil ?_
  refine WP.ret ?_
  refine fin1_ret rfl ⟨rfl, H⟩
theorem pWhoseI (w0 : World) (B ip : Nat) (p : Part) (a : Option Addr) (c : Nat) (l : List Part) (hbp : Box B w0 ip 27 (Lies.enc p)) (hl : Sl w0 a l) (hlen : l.length ≤ 100000) :
    Ct Try.prog 38 #[.slice a l.length c, .func (.func 32) #[] #[.pointer (some ⟨ip, 0, none⟩)]] w0 fun v w' => (∃ r : Int, v = .int .i64 r ∧ (0 ≤ r ↔ p ∈ l)) ∧ Ext w0 w' := by
  refine Ct.intro1 Try.func38 Try.ntmps38 rfl rfl (by decide) rfl ?_
  have H : Ext w0 w0 := Ext.refl w0
  refine WP.regionS ?_
  refine RL.r (asgI rfl) rfl ?_
  refine RL.nil ?_
  refine WP.seq ?_
  refine WP.regionS ?_
  refine RL.r (mvL rfl) rfl ?_
  refine RL.r (len_sl rfl) rfl ?_
  refine RL.r (mvI rfl) rfl ?_
  refine RL.nil ?_
  refine WP.block ?_
  refine WP.loop (fun k e' w' => ∃ j : Nat,  j + k = l.length ∧ Head [4, 5, 8, 9, 10, 11, 12, 13, 14, 15, 16, 17, 18] _ [(8, .int .i64 (j : Int))] e' ∧ Ext w0 w' ∧ ∀ (i : Nat) (h : i < l.length), i < j → ¬ l[i] = p) (l.length)
    ⟨0, by omega, Head.intro (AgreeOff.refl _ _) ⟨rfl, trivial⟩, H, fun i h hi => by omega⟩ ?_
  clear H
  rintro k e w1 ⟨j, hjk, ⟨jk, rfl⟩, H, hok⟩
  refine WP.regionS ?_
  refine RL.r (lss rfl rfl) rfl ?_
  refine RL.nil ?_
  refine WP.seq ?_
  refine WP.cond rfl (fun hc => ?_) (fun hc => ?_)
  · refine WP.skip ?_
    refine WP.seq ?_
    refine WP.block ?_
    refine WP.regionS ?_
    refine RL.r (mvI rfl) rfl ?_
    refine RL.r (asgI rfl) rfl ?_
    refine RL.nil ?_
    refine WP.regionS ?_
    refine RL.r (mvF rfl) rfl ?_
    refine RL.r (mvL rfl) rfl ?_
    refine RL.r (mvI rfl) rfl ?_
    have hj : j < l.length := by omega
    obtain ⟨q, rfl⟩ := hl.isAddr (by decide) hj
    refine RL.r (ix rfl rfl rfl (by omega)) rfl ?_
    refine RL.m (ldS_el rfl hl H rfl rfl (by omega)) rfl ?_
    -- call VALUE (tmp 11) (tmp 15)
    refine RL.callv (vs := [.agg (Lies.enc l[j]).toArray]) (cap := [.pointer (some ⟨ip, 0, none⟩)]) rfl (pWhose11 _ B ip p l[j] (hbp.ext H)) rfl rfl ?_
    rintro _ w2 ⟨rfl, hx⟩
    replace H := H.ext hx
    refine RL.nil ?_
    refine WP.cond rfl (fun hc => ?_) (fun hc => ?_)
    · refine WP.regionS ?_
      refine RL.r (mvI rfl) rfl ?_
      refine RL.r (asgI rfl) rfl ?_
      refine RL.nil ?_
      refine WP.ret ?_
      refine fin1_ret rfl ⟨⟨_, rfl, ⟨fun _ => inmem hj hc, fun _ => by omega⟩⟩, H⟩
    · refine WP.skip ?_
      refine WP.region ?_
      refine RL.r (add rfl rfl (by omega)) rfl ?_
      refine RL.r (mvI rfl) rfl ?_
      refine RL.nil ?_
      refine ⟨k - 1, by omega, j + 1, by omega, Head.intro (by repeat (first | with_reducible exact AgreeOff.mix _ _ _ | refine AgreeOff.look rfl ?_ | refine AgreeOff.mixs rfl ?_)) ⟨rfl, trivial⟩, H, fun i h hi => ?_⟩
      by_cases hij : i < j
      · exact hok i h hij
      · obtain rfl : i = j := by omega
        exact hc
  · refine WP.exit ?_
    refine WP.regionS ?_
    refine RL.r (asgI rfl) rfl ?_
    refine RL.nil ?_
    refine WP.ret ?_
    refine fin1_ret rfl ⟨⟨_, rfl, ⟨fun h => by omega, fun h => absurd h (nomem fun i h => hok i h (by omega))⟩⟩, H⟩
theorem pWhoseC (w0 : World) (B ip : Nat) (p : Part) (a : Option Addr) (c : Nat) (l : List Part) (hbp : Box B w0 ip 27 (Lies.enc p)) (hl : Sl w0 a l) (hlen : l.length ≤ 100000) :
    Ct Try.prog 31 #[.slice a l.length c, .func (.func 32) #[] #[.pointer (some ⟨ip, 0, none⟩)]] w0 fun v w' => v = .bool (decide (p ∈ l)) ∧ Ext w0 w' := by
  refine Ct.intro1 Try.func31 Try.ntmps31 rfl rfl (by decide) rfl ?_
  have H : Ext w0 w0 := Ext.refl w0
  refine WP.regionS ?_
  refine RL.r (asgB rfl) rfl ?_
  refine RL.nil ?_
  refine WP.regionS ?_
  refine RL.r (mvL rfl) rfl ?_
  refine RL.r (mvF rfl) rfl ?_
  -- call slices.IndexFunc[[]stagecoach/api.Part,stagecoach/api.Part] (tmp 5) (tmp 6)
  refine RL.call (pWhoseI _ B ip p _ _ l hbp hl hlen) rfl rfl ?_
  rintro v w1 ⟨⟨r, rfl, hr⟩, hx⟩
  replace H := H.ext hx
  refine RL.r (geq rfl rfl) rfl ?_
  refine RL.r (asgB rfl) rfl ?_
  refine RL.nil ?_
  refine WP.ret ?_
  refine fin1_ret rfl ⟨congrArg Value.bool (bD hr), H⟩
theorem pWhose1 (w0 : World) (B ip : Nat) (p : Part) (a : Option Addr) (c : Nat) (l : List Part) (hbp : Box B w0 ip 27 (Lies.enc p)) (hl : Sl w0 a l) (hlen : l.length ≤ 100000) :
    Ct Try.prog 30 #[.slice a l.length c, .pointer (some ⟨ip, 0, none⟩)] w0 fun v w' => v = .bool (decide (p ∈ l)) ∧ Ext w0 w' := by
  refine Ct.intro1 Try.func30 Try.ntmps30 rfl rfl (by decide) rfl ?_
  have H : Ext w0 w0 := Ext.refl w0
  refine WP.regionS ?_
  refine RL.r (asgB rfl) rfl ?_
  refine RL.nil ?_
  refine WP.regionS ?_
  refine RL.r (mvL rfl) rfl ?_
  refine RL.r (mkfn) rfl ?_
  -- call slices.ContainsFunc[[]stagecoach/api.Part,stagecoach/api.Part] (tmp 4) (tmp 5)
  refine RL.call (pWhoseC _ B ip p _ _ l hbp hl hlen) rfl rfl ?_
  rintro _ w1 ⟨rfl, hx⟩
  replace H := H.ext hx
  refine RL.r (asgB rfl) rfl ?_
  refine RL.nil ?_
  refine WP.ret ?_
  refine fin1_ret rfl ⟨rfl, H⟩
theorem pWhoseG (w0 : World) (B ip : Nat) (p : Part) (a : Option Addr) (c : Nat) (g : List (Rw Part)) (hbp : Box B w0 ip 27 (Lies.enc p)) (hg : Gr w0 a g) (hlen : g.length ≤ 1000) (hle : ∀ r ∈ g, r.l.length ≤ 100000) :
    Ct Try.prog 29 #[.slice a g.length c, .func (.func 30) #[] #[.pointer (some ⟨ip, 0, none⟩)]] w0 fun v w' => v = .int .i64 (whose (rows g) p) ∧ Ext w0 w' := by
  refine Ct.intro1 Try.func29 Try.ntmps29 rfl rfl (by decide) rfl ?_
  have H : Ext w0 w0 := Ext.refl w0
  refine WP.regionS ?_
  refine RL.r (asgI rfl) rfl ?_
  refine RL.nil ?_
  refine WP.seq ?_
  refine WP.regionS ?_
  refine RL.r (mvL rfl) rfl ?_
  refine RL.r (len_sl rfl) rfl ?_
  refine RL.r (mvI rfl) rfl ?_
  refine RL.nil ?_
  refine WP.block ?_
  refine WP.loop (fun k e' w' => ∃ j : Nat,  j + k = g.length ∧ Head [4, 5, 8, 9, 10, 11, 12, 13, 14, 15, 16, 17, 18] _ [(8, .int .i64 (j : Int))] e' ∧ Ext w0 w' ∧ ∀ (i : Nat) (h : i < g.length), i < j → ¬ p ∈ g[i].l) (g.length)
    ⟨0, by omega, Head.intro (AgreeOff.refl _ _) ⟨rfl, trivial⟩, H, fun i h hi => by omega⟩ ?_
  clear H
  rintro k e w1 ⟨j, hjk, ⟨jk, rfl⟩, H, hok⟩
  refine WP.regionS ?_
  refine RL.r (lss rfl rfl) rfl ?_
  refine RL.nil ?_
  refine WP.seq ?_
  refine WP.cond rfl (fun hc => ?_) (fun hc => ?_)
  · refine WP.skip ?_
    refine WP.seq ?_
    refine WP.block ?_
    refine WP.regionS ?_
    refine RL.r (mvI rfl) rfl ?_
    refine RL.r (asgI rfl) rfl ?_
    refine RL.nil ?_
    refine WP.regionS ?_
    refine RL.r (mvF rfl) rfl ?_
    refine RL.r (mvL rfl) rfl ?_
    refine RL.r (mvI rfl) rfl ?_
    have hj : j < g.length := by omega
    obtain ⟨q, rfl⟩ := hg.1.isAddr (by decide) hj
    refine RL.r (ix rfl rfl rfl (by omega)) rfl ?_
    refine RL.m (ld_e0 rfl hg.1 H rfl (by omega) rfl) rfl ?_
    -- call VALUE (tmp 11) (tmp 15)
    refine RL.callv (vs := [.slice g[j].a g[j].l.length g[j].c]) (cap := [.pointer (some ⟨ip, 0, none⟩)]) rfl (pWhose1 _ B ip p _ _ g[j].l (hbp.ext H) ((hg.2 _ (List.getElem_mem hj)).ext H) (hle _ (List.getElem_mem hj))) rfl rfl ?_
    rintro _ w2 ⟨rfl, hx⟩
    replace H := H.ext hx
    refine RL.nil ?_
    refine WP.cond rfl (fun hc => ?_) (fun hc => ?_)
    · refine WP.regionS ?_
      refine RL.r (mvI rfl) rfl ?_
      refine RL.r (asgI rfl) rfl ?_
      refine RL.nil ?_
      refine WP.ret ?_
      refine fin1_ret rfl ⟨intE (whose_at (j := j) (by simpa using hj) ?_ ?_).symm, H⟩
      · simpa using hc
      · intro i hi
        simpa using hok i (by omega) hi
    · refine WP.skip ?_
      refine WP.region ?_
      refine RL.r (add rfl rfl (by omega)) rfl ?_
      refine RL.r (mvI rfl) rfl ?_
      refine RL.nil ?_
      refine ⟨k - 1, by omega, j + 1, by omega, Head.intro (by repeat (first | with_reducible exact AgreeOff.mix _ _ _ | refine AgreeOff.look rfl ?_ | refine AgreeOff.mixs rfl ?_)) ⟨rfl, trivial⟩, H, fun i h hi => ?_⟩
      by_cases hij : i < j
      · exact hok i h hij
      · obtain rfl : i = j := by omega
        exact hc
  · refine WP.exit ?_
    refine WP.regionS ?_
    refine RL.r (asgI rfl) rfl ?_
    refine RL.nil ?_
    refine WP.ret ?_
    refine fin1_ret rfl ⟨intE (whose_no fun i hi => by simp only [List.length_map] at hi; simpa using hok i hi (by omega)).symm, H⟩
theorem pWhose (w0 : World) (a : Option Addr) (c : Nat) (g : List (Rw Part)) (p : Part) (hg : Gr w0 a g) (hlen : g.length ≤ 1000) (hle : ∀ r ∈ g, r.l.length ≤ 100000) :
    Ct Try.prog 17 #[.slice a g.length c, .agg (Lies.enc p).toArray] w0 fun v w' => v = .int .i64 (whose (rows g) p) ∧ Ext w0 w' := by
  refine Ct.intro1 Try.func17 Try.ntmps17 rfl rfl (by decide) rfl ?_
  have H : Ext w0 w0 := Ext.refl w0
  refine WP.regionS ?_
  refine RL.boxS w0.heap.size H.size rfl rfl ?_
  intro w1 i3 hi3 hx hb3
  replace H := H.ext hx; clear hx
  refine RL.r (asgI rfl) rfl ?_
  refine RL.nil ?_
  refine WP.regionS ?_
  refine RL.r (mvL rfl) rfl ?_
  refine RL.r (mkfn) rfl ?_
  -- call slices.IndexFunc[[][]stagecoach/api.Part,[]stagecoach/api.Part] (tmp 5) (tmp 6)
  refine RL.call (pWhoseG _ w0.heap.size i3 p _ _ g hb3 ⟨hg.1.ext H, fun r hr => (hg.2 r hr).ext H⟩ hlen hle) rfl rfl ?_
  rintro _ w2 ⟨rfl, hx⟩
  replace H := H.ext hx; replace hb3 := hb3.ext hx
  refine RL.r (asgI rfl) rfl ?_
  refine RL.nil ?_
  refine WP.ret ?_
  refine fin1_ret rfl ⟨rfl, H⟩
end Go.Proofs.Ytoebejfffakjpaa
