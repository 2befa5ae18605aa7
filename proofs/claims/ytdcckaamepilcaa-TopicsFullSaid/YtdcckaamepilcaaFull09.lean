/-
  TopicsFull: the plain law and the walk.
-/
import Derived.Test.YtdcckaamepilcaaOpen09
set_option linter.unusedVariables false
namespace Go.Proofs.Ytdcckaamepilcaa
open Go Go.Eng Go.RowKit
theorem addW {P : Program} {e : Env} {x y : Operand} {t t' : TypeId} {a b : Int} (hx : ev e x = .int .i64 a) (hy : ev e y = .int .i64 b) : Pure P e (.binOp .add t x y t') (.int .i64 (IntKind.i64.wrap (a + b))) := by
  intro w d ty pos after g; simp [execOp, hx, hy, eqGuard, binOp, Op.intArith]
def nmC (l : List UInt8) : List ByteArray := l.map fun c => ⟨#[c]⟩
abbrev c8 : List UInt8 := [97, 98, 99, 100, 101, 102, 103, 104]
abbrev iS : ByteArray := ⟨#[105]⟩
theorem c8_len : (nmC c8).length = 8 := rfl
def nm (i : Nat) : ByteArray := (nmC c8).getD i ByteArray.empty
theorem nm_get {j : Nat} (h : j < (nmC c8).length) : (nmC c8)[j] = nm j := by unfold nm; rw [List.getD_eq_getElem?_getD, List.getElem?_eq_getElem h]; rfl
theorem nmC_srt {l : List UInt8} (h : l.Pairwise (· < ·)) : (nmC l).Pairwise slt := List.pairwise_map.2 (h.imp fun h => slt_one h)
theorem nm_lt {i j : Nat} (h : i < j) (hj : j < 8) : slt (nm i) (nm j) := by
  have hp : (nmC c8).Pairwise slt := nmC_srt (by decide)
  have := List.pairwise_iff_getElem.1 hp i j (by rw [c8_len]; omega) (by rw [c8_len]; omega) h
  rwa [nm_get, nm_get] at this
theorem nm_mem {i : Nat} (h : i < 8) : ∃ c ∈ c8, nm i = ⟨#[c]⟩ := by
  have hm : nm i ∈ nmC c8 := by rw [← nm_get (by rw [c8_len]; omega)]; exact List.getElem_mem _
  obtain ⟨c, hc, e⟩ := List.mem_map.1 hm
  exact ⟨c, hc, e.symm⟩
theorem nm_name {i : Nat} (h : i < 8) : nameB (nm i) := by
  obtain ⟨c, hc, e⟩ := nm_mem h
  rw [e]
  exact one_name c ((show ∀ c ∈ c8, okb c = true by decide) c hc)
theorem nm_i {i : Nat} (h : i < 8) : slt (nm i) iS := by
  obtain ⟨c, hc, e⟩ := nm_mem h
  rw [e]
  exact slt_one ((show ∀ c ∈ c8, c < 105 by decide) c hc)
theorem slt_ne {a b : ByteArray} (h : slt a b) : a ≠ b := fun e => by subst e; exact slt_irrefl _ h
def tn (n : Int) (i : Nat) : Int := 1 + ((andv 7 (IntKind.i64.wrap (n + (i : Int))) : Nat) : Int)
theorem tn_b (n : Int) (i : Nat) : 1 ≤ tn n i ∧ tn n i ≤ 8 := by
  have := andv_le 7 (by decide) (IntKind.i64.wrap (n + (i : Int)))
  unfold tn
  omega
def SF (n : Int) (j : Nat) : List Topic := (List.range j).map fun i => ⟨nm i, tn n i⟩
theorem SF_len (n : Int) (j : Nat) : (SF n j).length = j := by unfold SF; rw [List.length_map, List.length_range]
theorem SF_mem {n : Int} {j : Nat} {x : Topic} (h : x ∈ SF n j) : ∃ i, i < j ∧ x.name = nm i := by
  obtain ⟨i, hi, rfl⟩ := List.mem_map.1 h
  exact ⟨i, List.mem_range.1 hi, rfl⟩
theorem SF_make (n : Int) {j : Nat} (hj : j < 8) : makeE (SF n j) ⟨nm j, tn n j⟩ = 0 ∧ makeC (SF n j) ⟨nm j, tn n j⟩ = SF n (j + 1) := by
  have hno : eGet (SF n j) (nm j) = none := by
    rw [eGet_none]
    intro x hx
    obtain ⟨i, hi, e⟩ := SF_mem hx
    show x.name ≠ nm j
    rw [e]
    exact slt_ne (nm_lt hi hj)
  have h := make_ok (S := SF n j) (t := ⟨nm j, tn n j⟩) ⟨nm_name hj, tn_b n j⟩ hno (by rw [SF_len]; exact hj)
  refine ⟨h.1, h.2.trans ?_⟩
  rw [ePut_last]
  · unfold SF; rw [List.range_succ, List.map_append]; rfl
  · intro x hx
    obtain ⟨i, hi, e⟩ := SF_mem hx
    show slt x.name (nm j)
    rw [e]
    exact nm_lt hi hj
theorem i_ok : topicOk ⟨iS, 1⟩ := one_ok 105 (by decide) 1 (by decide) (by decide)
theorem no_i {n : Int} {S : List Topic} (h : ∀ x ∈ S, x ∈ SF n 8) : eGet S iS = none := by
  rw [eGet_none]
  intro x hx
  obtain ⟨i, hi, e⟩ := SF_mem (h x hx)
  show x.name ≠ iS
  rw [e]
  exact slt_ne (nm_i hi)
theorem full1 (n : Int) : makeE (SF n 8) ⟨iS, 1⟩ = 2 ∧ makeC (SF n 8) ⟨iS, 1⟩ = SF n 8 := make_full i_ok (no_i fun x h => h) (by rw [SF_len]; decide)
theorem SF_has (n : Int) {k : Nat} (hk : k < 8) : eGet (SF n 8) (nm k) ≠ none := eGet_ne.2 ⟨⟨nm k, tn n k⟩, List.mem_map.2 ⟨k, List.mem_range.2 hk, rfl⟩, rfl⟩
theorem full2 (n : Int) {k : Nat} (hk : k < 8) : dropE (SF n 8) (nm k) = 0 := by unfold dropE; rw [if_neg (SF_has n hk)]
theorem full2_len (n : Int) {k : Nat} (hk : k < 8) (hs : (SF n 8).Pairwise bfr) : (dropC (SF n 8) (nm k)).length = 7 := by
  unfold dropC
  rw [eDel_len (srt_nodup hs), if_pos (Option.isSome_iff_ne_none.2 (SF_has n hk)), SF_len]
theorem full3 (n : Int) {k : Nat} (hk : k < 8) (hs : (SF n 8).Pairwise bfr) : makeE (dropC (SF n 8) (nm k)) ⟨iS, 1⟩ = 0 ∧ makeC (dropC (SF n 8) (nm k)) ⟨iS, 1⟩ = dropC (SF n 8) (nm k) ++ [⟨iS, 1⟩] := by
  have hl := full2_len n hk hs
  have h := make_ok (S := dropC (SF n 8) (nm k)) (t := ⟨iS, 1⟩) i_ok (no_i fun x h => (eDel_mem.1 h).1) (by omega)
  refine ⟨h.1, h.2.trans ?_⟩
  rw [ePut_last]
  intro x hx
  obtain ⟨i, hi, e⟩ := SF_mem (eDel_mem.1 hx).1
  show slt x.name iS
  rw [e]
  exact nm_i hi
theorem full4 (n : Int) {k : Nat} (hk : k < 8) (hs : (SF n 8).Pairwise bfr) : makeE (dropC (SF n 8) (nm k) ++ [⟨iS, 1⟩]) ⟨nm k, 1⟩ = 2 ∧ makeC (dropC (SF n 8) (nm k) ++ [⟨iS, 1⟩]) ⟨nm k, 1⟩ = dropC (SF n 8) (nm k) ++ [⟨iS, 1⟩] := by
  have hl := full2_len n hk hs
  refine make_full ⟨nm_name hk, (show (1 : Int) ≤ 1 by decide), (show (1 : Int) ≤ 8 by decide)⟩ ?_ (by rw [List.length_append, hl]; decide)
  rw [eGet_none]
  intro x hx
  rcases List.mem_append.1 hx with hx | hx
  · exact (eDel_mem.1 hx).2
  · rw [List.mem_singleton.1 hx]
    exact (slt_ne (nm_i hk)).symm
theorem full_len (n : Int) {k : Nat} (hk : k < 8) (hs : (SF n 8).Pairwise bfr) : (dropC (SF n 8) (nm k) ++ [(⟨iS, 1⟩ : Topic)]).length = 8 := by rw [List.length_append, full2_len n hk hs]; rfl
theorem full_last (n : Int) {k : Nat} (hk : k < 8) (hs : (SF n 8).Pairwise bfr) : ((dropC (SF n 8) (nm k) ++ [(⟨iS, 1⟩ : Topic)])[7]'(by rw [full_len n hk hs]; decide)).name = iS := by
  rw [List.getElem_append_right (by rw [full2_len n hk hs]; decide)]
  simp [full2_len n hk hs]
set_option maxRecDepth 20000 in
set_option maxHeartbeats 1600000 in
theorem lFull (w0 : World) (n k1 : Int) :
    Ct Try.prog 5 #[.int .i64 n, .int .i64 k1] w0 fun v w' => v = .bool true ∧ Ext w0 w' := by
  refine Ct.intro1 Try.func5 Try.ntmps5 rfl rfl (by decide) rfl ?_
  have H : Ext w0 w0 := Ext.refl w0
  refine WP.regionS ?_
  refine RL.r (asgB rfl) rfl ?_
  refine RL.nil ?_
  refine WP.regionS ?_
  -- call stagecoach/topics.New 
  refine RL.call (pNew _) rfl rfl ?_
  rintro v w1 ⟨⟨i, m, rfl, hT⟩, hx⟩
  replace H := H.ext hx
  refine RL.buildSlice w0.heap.size H.size rfl rfl rfl rfl rfl ?_
  intro w2 i15 hi15 hx hb15
  replace H := H.ext hx; replace hT := hT.ext hx; clear hx
  refine RL.r (asgP rfl) rfl ?_
  refine RL.r (asgL rfl) rfl ?_
  refine RL.nil ?_
  refine WP.seq ?_
  refine WP.regionS ?_
  refine RL.r (mvP rfl) rfl ?_
  refine RL.r (peqn rfl rfl) rfl ?_
  refine RL.nil ?_
  refine WP.cond rfl (fun hc => ?_) (fun hc => ?_)
  · refine WP.regionS ?_
    refine RL.r (asgB rfl) rfl ?_
    refine RL.nil ?_
    refine WP.ret ?_
    refine fin1_ret rfl ⟨absurd hc (by simp), H⟩
  · refine WP.skip ?_
    refine WP.seq ?_
    refine WP.regionS ?_
    refine RL.r (asgI rfl) rfl ?_
    refine RL.nil ?_
    refine WP.block ?_
    refine WP.loop (fun k e' w' => ∃ j : Nat,  j + k = 8 ∧ Head [4, 7, 18, 19, 20, 21, 22, 23, 24, 25, 26, 27, 28, 29, 30, 31, 32, 33] _ [(7, .int .i64 (j : Int))] e' ∧ Ext w0 w' ∧ Box w0.heap.size w' i15 9 ((nmC c8).flatMap Lies.enc) ∧ Tc w0.heap.size w' i m (SF n j)) (8)
      ⟨0, by omega, Head.intro (AgreeOff.refl _ _) ⟨rfl, trivial⟩, H, hb15, hT⟩ ?_
    clear H hb15 hT
    rintro k e w3 ⟨j, hjk, ⟨jk, rfl⟩, H, hb15, hT⟩
    refine WP.seq ?_
    refine WP.regionS ?_
    refine RL.r (mvI rfl) rfl ?_
    refine RL.r (lss rfl rfl) rfl ?_
    refine RL.nil ?_
    refine WP.cond rfl (fun hc => ?_) (fun hc => ?_)
    · refine WP.skip ?_
      refine WP.seq ?_
      refine WP.block ?_
      refine WP.regionS ?_
      refine RL.r (mvP rfl) rfl ?_
      refine RL.r (mvL rfl) rfl ?_
      refine RL.r (mvI rfl) rfl ?_
      have hj : j < 8 := by omega
      have hj8 : j < (nmC c8).length := by rw [c8_len]; omega
      have hav := andv_le 7 (by decide) (IntKind.i64.wrap (n + (j : Int)))
      refine RL.r (ix rfl rfl rfl hj8) rfl ?_
      refine RL.m (ld_e0 rfl (Box.sl (l := nmC c8) hb15) (Ext.refl _) rfl hj8 rfl) rfl ?_
      refine RL.r (mvI rfl) rfl ?_
      refine RL.r (mvI rfl) rfl ?_
      refine RL.r (addW rfl rfl) rfl ?_
      refine RL.r (andk (K := 7) rfl rfl (by decide)) rfl ?_
      refine RL.r (add rfl rfl (by omega)) rfl ?_
      -- call (*stagecoach/topics.Catalog).Make (tmp 22) (tmp 26) (tmp 31)
      obtain ⟨hE, hC⟩ := SF_make n hj
      refine RL.call ((by rw [nm_get]; exact pMake _ _ i m (SF n j) hT (nm j) (tn n j))) rfl rfl ?_
      rintro _ w4 ⟨⟨rfl, hT2⟩, hx⟩
      replace H := H.mp hx hT.old; replace hb15 := hb15.upd hx (hT.neb hb15)
      rw [hC] at hT2
      replace hT := hT2; clear hT2
      refine RL.r (neq rfl rfl) rfl ?_
      refine RL.nil ?_
      refine WP.cond rfl (fun hc => ?_) (fun hc => ?_)
      · refine WP.regionS ?_
        refine RL.r (asgB rfl) rfl ?_
        refine RL.nil ?_
        refine WP.ret ?_
        refine fin1_ret rfl ⟨absurd hE hc, H⟩
      · refine WP.skip ?_
        refine WP.region ?_
        refine RL.r (mvI rfl) rfl ?_
        refine RL.r (add rfl rfl (by omega)) rfl ?_
        refine RL.r (asgI rfl) rfl ?_
        refine RL.nil ?_
        refine ⟨k - 1, by omega, j + 1, by omega, Head.intro (by repeat (first | with_reducible exact AgreeOff.mix _ _ _ | refine AgreeOff.look rfl ?_ | refine AgreeOff.mixs rfl ?_)) ⟨rfl, trivial⟩, H, hb15, hT⟩
    · refine WP.exit ?_
      refine WP.regionS ?_
      refine RL.r (mvL rfl) rfl ?_
      refine RL.r (mvI rfl) rfl ?_
      refine RL.r (andk (K := 7) rfl rfl (by decide)) rfl ?_
      have hj8 : j = 8 := by omega
      subst hj8
      have hs8 := hT.ok.srt
      have hka := andv_le 7 (by decide) k1
      have hk8 : andv 7 k1 < 8 := by omega
      have hk8c : andv 7 k1 < (nmC c8).length := by rw [c8_len]; exact hk8
      refine RL.r (ix rfl rfl rfl hk8c) rfl ?_
      refine RL.m (ld_e0 rfl (Box.sl (l := nmC c8) hb15) (Ext.refl _) rfl hk8c rfl) rfl ?_
      refine RL.r (asgS rfl) rfl ?_
      refine RL.nil ?_
      refine WP.regionS ?_
      refine RL.r (mvP rfl) rfl ?_
      -- call (*stagecoach/topics.Catalog).Make (tmp 39) (const (string {data:#[105]})) (const (int i64 1))
      refine RL.call (pMake _ _ i m _ hT iS 1) rfl rfl ?_
      rintro _ w5 ⟨⟨rfl, hT2⟩, hx⟩
      replace H := H.mp hx hT.old; replace hb15 := hb15.upd hx (hT.neb hb15)
      rw [(full1 n).2] at hT2
      replace hT := hT2; clear hT2
      refine RL.r (mvP rfl) rfl ?_
      refine RL.r (mvS rfl) rfl ?_
      -- call (*stagecoach/topics.Catalog).Drop (tmp 41) (tmp 42)
      refine RL.call ((by rw [nm_get]; exact pDrop _ _ i m _ hT (nm (andv 7 k1)))) rfl rfl ?_
      rintro _ w6 ⟨⟨rfl, hT2⟩, hx⟩
      replace H := H.mp hx hT.old; replace hb15 := hb15.upd hx (hT.neb hb15)
      replace hT := hT2; clear hT2
      refine RL.r (asgI rfl) rfl ?_
      refine RL.r (asgI rfl) rfl ?_
      refine RL.nil ?_
      refine WP.regionS ?_
      refine RL.r (mvP rfl) rfl ?_
      -- call (*stagecoach/topics.Catalog).Make (tmp 44) (const (string {data:#[105]})) (const (int i64 1))
      refine RL.call (pMake _ _ i m _ hT iS 1) rfl rfl ?_
      rintro _ w7 ⟨⟨rfl, hT2⟩, hx⟩
      replace H := H.mp hx hT.old; replace hb15 := hb15.upd hx (hT.neb hb15)
      rw [(full3 n hk8 hs8).2] at hT2
      replace hT := hT2; clear hT2
      refine RL.r (mvP rfl) rfl ?_
      refine RL.r (mvS rfl) rfl ?_
      -- call (*stagecoach/topics.Catalog).Make (tmp 46) (tmp 47) (const (int i64 1))
      refine RL.call ((by rw [nm_get]; exact pMake _ _ i m _ hT (nm (andv 7 k1)) 1)) rfl rfl ?_
      rintro _ w8 ⟨⟨rfl, hT2⟩, hx⟩
      replace H := H.mp hx hT.old; replace hb15 := hb15.upd hx (hT.neb hb15)
      rw [(full4 n hk8 hs8).2] at hT2
      replace hT := hT2; clear hT2
      refine RL.r (asgI rfl) rfl ?_
      refine RL.r (asgI rfl) rfl ?_
      refine RL.nil ?_
      refine WP.regionS ?_
      refine RL.r (mvP rfl) rfl ?_
      -- call (*stagecoach/topics.Catalog).List (tmp 49)
      refine RL.call (pList _ _ i m _ hT) rfl rfl ?_
      rintro v w9 ⟨⟨aL, cL, rfl, hL⟩, hx⟩
      replace H := H.ext hx; replace hb15 := hb15.ext hx; replace hT := hT.ext hx
      refine RL.r (asgL rfl) rfl ?_
      refine RL.nil ?_
      refine WP.seq (WP.quiet ?_)
      refine QL.r (mvI rfl) rfl ?_
      refine QL.r (eql rfl rfl) rfl ?_
      refine QL.r (mvB rfl) rfl ?_
      refine QL.gg (gwT rfl rfl) (fun hg => (mvI rfl).does _) rfl ?_
      refine QL.gg (gwT rfl rfl) (fun hg => (eql (gs hg rfl) rfl).does _) rfl ?_
      refine QL.r (pickAnd rfl (fun hn => gs hn rfl)) rfl ?_
      refine QL.r (mvB rfl) rfl ?_
      refine QL.gg (gwT rfl rfl) (fun hg => (mvI rfl).does _) rfl ?_
      refine QL.gg (gwT rfl rfl) (fun hg => (eql (gs hg rfl) rfl).does _) rfl ?_
      refine QL.r (pickAnd rfl (fun hn => gs hn rfl)) rfl ?_
      refine QL.r (mvB rfl) rfl ?_
      refine QL.gg (gwT rfl rfl) (fun hg => (mvI rfl).does _) rfl ?_
      refine QL.gg (gwT rfl rfl) (fun hg => (eql (gs hg rfl) rfl).does _) rfl ?_
      refine QL.r (pickAnd rfl (fun hn => gs hn rfl)) rfl ?_
      refine QL.r (mvB rfl) rfl ?_
      refine QL.gg (gwT rfl rfl) (fun hg => (mvL rfl).does _) rfl ?_
      refine QL.gg (gwT rfl rfl) (fun hg => (len_sl (gs hg rfl)).does _) rfl ?_
      refine QL.gg (gwT rfl rfl) (fun hg => (eql (gs hg rfl) rfl).does _) rfl ?_
      refine QL.r (pickAnd rfl (fun hn => gs hn rfl)) rfl ?_
      refine QL.r (mvB rfl) rfl ?_
      refine QL.gg (gwT rfl rfl) (fun hg => (mvL rfl).does _) rfl ?_
      have hl8 := full_len n hk8 hs8
      have hl7 : 7 < ((dropC (SF n 8) (nm (andv 7 k1))) ++ [(⟨iS, 1⟩ : Topic)]).length := by rw [hl8]; decide
      have hLs := hL.sl
      obtain ⟨q, hq⟩ := hLs.isAddr (by decide) hl7
      subst hq
      refine QL.gg (gwT rfl rfl) (fun hg => (ix (gs hg rfl) rfl (show (7 : Int) = ((7 : Nat) : Int) from rfl) hl7).does _) rfl ?_
      refine QL.gg (gwT rfl rfl) (fun hg => (fa_el hLs.1 (gs hg rfl)).does _) rfl ?_
      refine QL.gg (gwT rfl rfl) (fun hg => ld_el (gs hg rfl) hLs (Ext.refl _) rfl hl7 rfl) rfl ?_
      refine QL.gg (gwT rfl rfl) (fun hg => (seql (gs hg rfl) rfl).does _) rfl ?_
      refine QL.r (pickAnd rfl (fun hn => gs hn rfl)) rfl ?_
      refine QL.r (mvB rfl) rfl ?_
      -- call stagecoach/stagecoachlaw09.fixed 
      refine QL.gcall (gwT rfl rfl) (fun hg w' hw' => lFixedD w') (fun hg => EvL.nil) rfl ?_
      refine QL.r (pickAnd rfl (fun hn => gs hn rfl)) rfl ?_
      refine QL.r (asgB rfl) rfl ?_
      refine QL.nil ?_; intro w11 hx; replace H := H.ext hx; replace hb15 := hb15.ext hx; replace hT := hT.ext hx; replace hL := hL.ext hx
      refine WP.ret ?_
      refine fin1_ret rfl ⟨congrArg Value.bool (decide_eq_true ⟨⟨⟨⟨⟨⟨(full1 n).1, full2 n hk8⟩, (full3 n hk8 hs8).1⟩, (full4 n hk8 hs8).1⟩, by omega⟩, full_last n hk8 hs8⟩, rfl⟩), H⟩
end Go.Proofs.Ytdcckaamepilcaa
