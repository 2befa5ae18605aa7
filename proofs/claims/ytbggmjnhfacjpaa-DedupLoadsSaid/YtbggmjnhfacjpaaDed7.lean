/-
  The walk of Copy.
-/
import Derived.Test.YtbggmjnhfacjpaaDed6
import Derived.Test.YtbggmjnhfacjpaaDed5
set_option linter.unusedVariables false
namespace Go.Proofs.Ytbggmjnhfacjpaa
open Go Go.Eng Go.RowKit
theorem ePut_filter {V K : Type} [Keyed V K] [DecidableEq K] [KOrd K] {S : List V} (hs : S.Pairwise bfr) {v : V} (hv : v ∈ S) (p : V → Bool) : ePut (S.filter p) v = S.filter fun x => p x || decide (key x = key v) := by
  have hn := srt_nodup hs
  have hnd : S.Nodup := (List.pairwise_map.1 hn).imp fun hab e => hab (by rw [e])
  have h1 : (S.filter p).Pairwise bfr := hs.sublist List.filter_sublist
  refine sorted_eq (ePut_sorted h1 v) (hs.sublist List.filter_sublist) ?_
  have hnd1 : (ePut (S.filter p) v).Nodup := (List.pairwise_map.1 (srt_nodup (ePut_sorted h1 v))).imp fun hab e => hab (by rw [e])
  rw [List.perm_ext_iff_of_nodup hnd1 (hnd.sublist List.filter_sublist)]
  intro x
  rw [ePut_mem, List.mem_filter, List.mem_filter, Bool.or_eq_true, decide_eq_true_eq]
  constructor
  · rintro (rfl | ⟨⟨h2, h3⟩, h4⟩)
    · exact ⟨hv, .inr rfl⟩
    · exact ⟨h2, .inl h3⟩
  · rintro ⟨h2, h3⟩
    by_cases h4 : key x = key v
    · exact .inl (key_inj hn h2 hv h4)
    · exact .inr ⟨⟨h2, h3.resolve_right h4⟩, h4⟩
def keysD (done : List (DKey × Value × Nat)) (x : Pl) : Bool := decide (key x ∈ done.map (·.1))
theorem keysD_push {S : List Pl} (hs : S.Pairwise bfr) {v : Pl} (hv : v ∈ S) {done : List (DKey × Value × Nat)} {q : DKey × Value × Nat} (hk : key v = q.1) : ePut (S.filter (keysD done)) v = S.filter (keysD (done ++ [q])) := by
  rw [ePut_filter hs hv]
  apply List.filter_congr
  intro x _
  unfold keysD
  rw [hk, List.map_append, Bool.eq_iff_iff]
  simp
theorem keysD_nil (S : List Pl) : S.filter (keysD []) = [] := by
  rw [List.filter_eq_nil_iff]
  intro x _
  simp [keysD]
theorem keysD_all {lb done : List (DKey × Value × Nat)} {Hs : List Maker} (h : Rep lb Hs) (hp : done.Perm lb) : (Hs.map Maker.pl).filter (keysD done) = Hs.map Maker.pl := by
  rw [List.filter_eq_self]
  intro x hx
  obtain ⟨y, hy, rfl⟩ := List.mem_map.1 hx
  have h1 : key y ∈ lb.map (·.1) := (rep_keys h).mem_iff.2 (List.mem_map.2 ⟨y, hy, rfl⟩)
  have h2 : key y ∈ done.map (·.1) := ((hp.map _).mem_iff).2 h1
  unfold keysD
  rw [decide_eq_true_eq]
  exact h2
set_option maxRecDepth 20000 in
set_option maxHeartbeats 1600000 in
theorem pCopy (w0 : World) (B i : Nat) (Z : Nat → Prop) (D : Ds) (hT : Tg B w0 i Z D) (K : Int) (M : Nat) (hok : okD K M D) :
    Ct Try.prog 26 #[.pointer (some ⟨i, 0, none⟩)] w0 fun v w' => (∃ i2 Z2, v = .pointer (some ⟨i2, 0, none⟩) ∧ Tg w0.heap.size w' i2 Z2 D) ∧ Ext w0 w' := by
  refine Ct.intro1 Try.func26 Try.ntmps26 rfl rfl (by decide) rfl ?_
  have H : Ext w0 w0 := Ext.refl w0
  obtain ⟨m, a, c, Hs, hL0, hHS, hZ⟩ := hT.at_
  have hbt := hL0.box
  have hE := hL0.eps
  have hO := hL0.own
  obtain ⟨lb, cc, hm, hr⟩ := hL0.map
  have hmnod := hm.nod
  have hstm := hm.nob
  have hl32 := hok.len
  have hmlt := hm.blk
  have hilt := hbt.lt
  refine WP.regionS ?_
  refine RL.r (asgP rfl) rfl ?_
  refine RL.nil ?_
  refine WP.regionS ?_
  -- call stagecoach/dedup.New 
  refine RL.call (pNew _) rfl rfl ?_
  rintro v w1 ⟨⟨i2, m2, rfl, hbc, hmc⟩, hx⟩
  replace H := H.ext hx; replace hbt := hbt.ext hx; replace hm := hm.ext hx; replace hE := hE.ext hx; replace hO := hO.ext hx
  have net_c : i ≠ i2 := fun e => by have h2 := hbc.old; omega
  have hmm : m ≠ m2 := fun e => by have h2 := hmc.old; omega
  refine RL.r (asgP rfl) rfl ?_
  refine RL.nil ?_
  refine WP.regionS ?_
  refine RL.r (mvP rfl) rfl ?_
  refine RL.r (mvP rfl) rfl ?_
  refine RL.r (nilck rfl) rfl ?_
  refine RL.r (fa_box rfl) rfl ?_
  refine RL.m (ld_box rfl hbt rfl) rfl ?_
  -- call slices.Clone[[]int,int] (tmp 11)
  have hsz := H.size
  refine RL.call (pCloneI _ a c D.E hE.sl (by omega)) rfl rfl ?_
  rintro v w2 ⟨⟨a7, c7, rfl, hC⟩, hx⟩
  replace H := H.ext hx; replace hbt := hbt.ext hx; replace hbc := hbc.ext hx; replace hm := hm.ext hx; replace hE := hE.ext hx; replace hO := hO.ext hx; replace hmc := hmc.ext hx
  replace hC := hC.mono hsz
  refine RL.r (nilck rfl) rfl ?_
  refine RL.r (fa_box rfl) rfl ?_
  have hbc_0 := hbc
  refine RL.store1 rfl hbc rfl rfl rfl rfl ?_
  intro w3 hu hbc
  replace hm := hm.upd hu (hm.neb hbc_0)
  replace hE := hE.upd hu (fun j hj e => hE.box_apart hbc_0 (by decide) (e ▸ hj))
  replace hO := hO.bx hbc_0 (by decide) hu
  replace hmc := hmc.upd hu (hmc.neb hbc_0)
  replace hC := hC.upd hu (fun j hj e => hC.box_apart hbc_0 (by decide) (e ▸ hj))
  replace H := H.box hu hbc.old; replace hbt := hbt.upd hu net_c
  refine RL.nil ?_
  refine WP.seq ?_
  refine WP.regionS ?_
  refine RL.r (mvP rfl) rfl ?_
  refine RL.r (nilck rfl) rfl ?_
  refine RL.r (fa_box rfl) rfl ?_
  refine RL.m (ld_box rfl hbt rfl) rfl ?_
  refine RL.rangeM rfl hm rfl ?_
  intro w4 it hit hx hI
  have hitB : w0.heap.size ≤ it := by have := H.size; omega
  replace H := H.ext hx; replace hbt := hbt.ext hx; replace hbc := hbc.ext hx; replace hm := hm.ext hx; replace hE := hE.ext hx; replace hO := hO.ext hx; replace hmc := hmc.ext hx; replace hC := hC.ext hx; clear hx
  refine RL.nil ?_
  refine WP.block ?_
  refine WP.loop (fun k e' w' => ∃ j : Nat, ∃ (done : List (DKey × Value × Nat)) (seen : Array Nat) (Hc : List Maker) (lbc : List (DKey × Value × Nat)) (cc2 : Nat),  j + k = lb.length ∧ Head [4, 5, 20, 21, 22, 23, 24, 25, 26, 27, 28, 29, 30, 31] _ [] e' ∧ Ext w0 w' ∧ Box B w' i 71 [.slice a D.E.length c, .map (some m)] ∧ Box w0.heap.size w' i2 71 [.slice a7 D.E.length c7, .map (some m2)] ∧ ItM w' it m cc seen ∧ Seen lb done seen ∧ done.length = j ∧ MpD B w' m lb cc ∧ OwnsD B w' Hs ∧ Own w0.heap.size w' 3 a7 c7 D.E ∧ MpD w0.heap.size w' m2 lbc cc2 ∧ Rep lbc Hc ∧ OwnsD w0.heap.size w' Hc ∧ Hc.map Maker.pl = D.S.filter (keysD done)) (lb.length)
    ⟨0, [], #[], [], [], 0, by omega, Head.intro (AgreeOff.refl _ _) trivial, H, hbt, hbc, hI, Seen.nil lb, rfl, hm, hO, hC, hmc, List.Perm.refl _, OwnsD.nil _ _, (keysD_nil D.S).symm⟩ ?_
  clear H hbt hbc hm hE hO hmc hC
  rintro k e w5 ⟨j, done, seen, Hc, lbc, cc2, hjk, ⟨jk, rfl⟩, H, hbt, hbc, hI, hS, hdl, hm, hO, hC, hmc, hrc, hOc, hHc⟩
  have hle1 := hS.le
  have hmcnod := hmc.nod
  refine WP.regionS ?_
  refine RL.nextM rfl hI hm rfl ?_
  intro w6 o hu ho
  have hne := hI.ne hm
  have hne2 := hI.ne hmc
  have hnb := hI.neb hbt
  have hnb2 := hI.neb hbc
  replace H := H.box hu hitB
  replace hbt := hbt.upd hu (Ne.symm hnb)
  replace hbc := hbc.upd hu (Ne.symm hnb2)
  replace hm := hm.upd hu (Ne.symm hne)
  replace hmc := hmc.upd hu (Ne.symm hne2)
  replace hO := hO.upd hu (fun x hx j hj e => hI.nea (hO.own x hx) (e ▸ hj))
  replace hOc := hOc.upd hu (fun x hx j hj e => hI.nea (hOc.own x hx) (e ▸ hj))
  replace hC := hC.upd hu (fun j hj e => hI.nea hC (e ▸ hj))
  clear hI hu
  refine RL.r (ex0k rfl) rfl ?_
  refine RL.nil ?_
  refine WP.seq ?_
  refine WP.cond rfl (fun hc => ?_) (fun hc => ?_)
  · refine WP.skip ?_
    refine WP.block ?_
    refine WP.regionS ?_
    obtain ⟨q, rfl⟩ := Option.ne_none_iff_exists'.1 hc
    obtain ⟨hq, hqs, hI⟩ := ho
    have hS2 := hS.push hq hqs
    have hle2 := hS2.le
    rw [List.length_append, List.length_singleton] at hle2
    obtain ⟨r, hrH, hrk, hqv⟩ := rep_at hr hq
    have hrS : r.pl ∈ D.S := by rw [← hHS]; exact List.mem_map.2 ⟨r, hrH, rfl⟩
    have hrl : r.last.length ≤ 5 := (hok.row r.pl hrS).2.1
    refine RL.m (entK rfl hI hm hq hqv) rfl ?_
    refine RL.r (ex0 rfl) rfl ?_
    refine RL.r (ex1 rfl) rfl ?_
    refine RL.alloc w0.heap.size H.size rfl rfl ?_
    intro w7 i4 hi4 hx hb4
    have net_4 := hbt.ne hi4
    have nec_4 := hbc.ne hi4
    refine RL.storeS rfl hb4 rfl rfl rfl rfl ?_
    intro w8 hu hb4
    replace hx := hx.box hu (Nat.le_of_eq hi4.symm)
    replace H := H.ext hx; replace hbt := hbt.ext hx; replace hbc := hbc.ext hx; replace hI := hI.ext hx; replace hm := hm.ext hx; replace hO := hO.ext hx; replace hC := hC.ext hx; replace hmc := hmc.ext hx; replace hOc := hOc.ext hx; clear hx hu
    refine RL.r (asgL rfl) rfl ?_
    refine RL.nil ?_
    refine WP.any ?_
    intro w9 hx; replace H := H.ext hx; replace hbt := hbt.ext hx; replace hbc := hbc.ext hx; replace hb4 := hb4.ext hx; replace hI := hI.ext hx; replace hm := hm.ext hx; replace hO := hO.ext hx; replace hC := hC.ext hx; replace hmc := hmc.ext hx; replace hOc := hOc.ext hx
    refine AL.p 0 (by kernel_rfl) rfl (mvP rfl) rfl ?_
    refine AL.p 1 (by kernel_rfl) rfl (nilck rfl) rfl ?_
    refine AL.p 2 (by kernel_rfl) rfl (fa_box rfl) rfl ?_
    refine AL.p 5 (by kernel_rfl) rfl (mvL rfl) rfl ?_
    -- call slices.Clone[[]stagecoach/api.Did,stagecoach/api.Did] (tmp 30)
    have hs9 := H.size
    have hlt := fun (y : Maker) (hy : y ∈ Hc) (j : Nat) (hj : inBlock y.la j) => ((hOc.own y hy).blk hj).2
    have hrow := hO.own r hrH
    have hCl : ∀ w', Ext w9 w' → Ct Try.prog 34 #[.slice r.la r.last.length r.lc] w' fun v w'' => (∃ a' c', v = .slice a' r.last.length c' ∧ Own w'.heap.size w'' 53 a' c' r.last) ∧ Ext w' w'' := fun w' hw' => pCloneD w' r.la r.lc r.last (hrow.sl.ext hw') (by omega)
    refine AL.x 6 (by kernel_rfl) rfl rfl (fun w' hw' => hCl w' hw') ?_
    refine AX.m 3 (by kernel_rfl) rfl rfl (ld_box rfl hbc rfl) rfl ?_
    refine AX.m 4 (by kernel_rfl) rfl rfl (ldS_box rfl hb4 (Nat.le_of_ble_eq_true rfl) rfl) rfl ?_
    refine AX.o (by kernel_rfl) rfl ?_
    rintro v w10 ⟨⟨a5, c5, rfl, hCr⟩, hx⟩
    replace H := H.ext hx; replace hbt := hbt.ext hx; replace hbc := hbc.ext hx; replace hb4 := hb4.ext hx; replace hI := hI.ext hx; replace hm := hm.ext hx; replace hO := hO.ext hx; replace hC := hC.ext hx; replace hmc := hmc.ext hx; replace hOc := hOc.ext hx
    refine AL.o 7 (by kernel_rfl) rfl ?_
    refine RL.updM (k := q.1) (v := .slice a5 r.last.length c5) rfl hmc rfl rfl ?_
    intro w11 hu hmc2
    replace hbt := hbt.upd hu (fun e => hmc.neb hbt e.symm)
    replace hbc := hbc.upd hu (fun e => hmc.neb hbc e.symm)
    replace hm := hm.upd hu hmm
    replace hI := hI.upd hu (hI.ne hmc)
    replace hC := hC.upd hu (fun j hj e => hmc.nea hC (e ▸ hj))
    replace hO := hO.mp hmc hu
    replace hOc := hOc.mp hmc hu
    replace hCr := hCr.upd hu (fun j hj e => hmc.nea hCr (e ▸ hj))
    replace H := H.mp hu hmc.old
    have hk : key (⟨q.1.id, 0, q.1.part, a5, c5, r.last⟩ : Maker) = q.1 := rfl
    have htl := tl_put (s := (⟨q.1.id, 0, q.1.part, a5, c5, r.last⟩ : Maker)) hbc hC hmc2 hrc hmcnod (hOc.sub List.filter_sublist) (hCr.mono hs9) _ (fun x hx j hj => hlt x hx j hj) (fun j hj => (hCr.blk hj).1)
    have hpl : (⟨q.1.id, 0, q.1.part, a5, c5, r.last⟩ : Maker).pl = r.pl := by
      show (⟨q.1.id, q.1.part, r.last⟩ : Pl) = ⟨r.id, r.part, r.last⟩
      rw [← hrk]
      rfl
    refine RL.nil ?_
    refine AL.nil (by kernel_rfl) ?_
    refine ⟨k - 1, by omega, j + 1, done ++ [q], seen.push q.2.2, _, _, _, by omega, Head.intro (by repeat (first | with_reducible exact AgreeOff.mix _ _ _ | refine AgreeOff.look rfl ?_ | refine AgreeOff.mixs rfl ?_)) trivial, H, hbt, hbc, hI, hS2, by simp [hdl], hm, hO, hC, hmc2, rep_put (m := (⟨q.1.id, 0, q.1.part, a5, c5, r.last⟩ : Maker)) hrc hmcnod _, htl.own, by rw [ePut_pl, hHc, hpl]; exact keysD_push hok.srt hrS hrk⟩
  · refine WP.exit ?_
    refine WP.regionS ?_
    refine RL.r (mvP rfl) rfl ?_
    refine RL.r (asgP rfl) rfl ?_
    refine RL.nil ?_
    refine WP.ret ?_
    obtain rfl : o = none := Classical.not_not.1 hc
    obtain ⟨hall, hI⟩ := ho
    have hperm := hS.perm hstm hall
    have hfin : Hc.map Maker.pl = D.S := by
      rw [hHc, ← hHS]
      exact keysD_all hr hperm
    refine fin1_ret rfl ⟨⟨i2, _, rfl, m2, a7, c7, Hc, ⟨hbc, hC, ⟨lbc, cc2, hmc, hrc⟩, hOc⟩, hfin, rfl⟩, H⟩
end Go.Proofs.Ytbggmjnhfacjpaa
