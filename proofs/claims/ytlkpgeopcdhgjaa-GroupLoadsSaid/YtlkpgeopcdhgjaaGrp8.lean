/-
  The walk of a group's Copy.
-/
import Derived.Test.YtlkpgeopcdhgjaaGrp7
set_option linter.unusedVariables false
namespace Go.Proofs.Ytlkpgeopcdhgjaa
open Go Go.Eng Go.RowKit
theorem stq_name {lb : List (ByteArray × Value × Nat)} {H : List Seat} (hr : Rep lb H) (hn : (lb.map (·.1)).Nodup) {q : ByteArray × Value × Nat} (hq : q ∈ lb) : (stq H q).name = q.1 := by
  obtain ⟨h, _, h2, _, h4⟩ := rep_entry hr hn hq
  unfold stq
  rw [h4]
  exact h2
theorem copy_step {lb done : List (ByteArray × Value × Nat)} {seen : Array Nat} {H0 Hc : List Seat} {q : ByteArray × Value × Nat} {s2 h9 : Seat} (hr : Rep lb H0) (hn : (lb.map (·.1)).Nodup) (hS : Seen lb done seen) (hq : q ∈ lb) (hqs : seen.contains q.2.2 = false) (hp : (Hc.map Seat.st).Perm (done.map (stq H0))) (hs : Hc.Pairwise bfr) (hg : eGet H0 q.1 = some h9) (hss : s2.st = h9.st) (hk : s2.name = q.1) : ((ePut Hc s2).map Seat.st).Perm ((done ++ [q]).map (stq H0)) := by
  have hfr := hS.fresh hn hq hqs
  have hno : eGet Hc (key s2) = none := by
    rw [eGet_none]
    intro x hx e
    have h1 : x.st ∈ done.map (stq H0) := hp.mem_iff.1 (List.mem_map.2 ⟨x, hx, rfl⟩)
    obtain ⟨y, hy, hy2⟩ := List.mem_map.1 h1
    have h2 := stq_name hr hn (hS.sub y hy)
    rw [hy2] at h2
    exact hfr y hy (h2.symm.trans (e.trans hk))
  have h1 := (ePut_new (srt_nodup hs) hno).map Seat.st
  rw [List.map_append] at h1
  refine h1.trans ?_
  rw [List.map_append]
  refine hp.append (List.Perm.of_eq ?_)
  simp only [List.map_cons, List.map_nil]
  unfold stq
  rw [hg, hss]
  rfl
theorem gCopy (w0 : World) (B i m : Nat) (G : Gs) (hT : Tg B w0 i m G) :
    Ct Try.prog 15 #[.pointer (some ⟨i, 0, none⟩)] w0 fun v w' => (∃ i2 m2, v = .pointer (some ⟨i2, 0, none⟩) ∧ Tg w0.heap.size w' i2 m2 G) ∧ Ext w0 w' := by
  refine Ct.intro1 Try.func15 Try.ntmps15 rfl rfl (by decide) rfl ?_
  have H : Ext w0 w0 := Ext.refl w0
  obtain ⟨H0, lb, c, hm, hr, hst, how⟩ := hT.map
  have hbt := hT.box
  have hok := hT.ok
  have hnod := hm.nod
  have hnob := hm.nob
  refine WP.regionS ?_
  refine RL.r (asgP rfl) rfl ?_
  refine RL.nil ?_
  refine WP.regionS ?_
  -- call stagecoach/group.New 
  refine RL.call (gNew _) rfl rfl ?_
  rintro v w1 ⟨⟨i2, m2, rfl, hN⟩, hx⟩
  replace H := H.ext hx; replace hbt := hbt.ext hx; replace hm := hm.ext hx
  obtain ⟨Hc0, lb2, c2, hmc, hr2, hst2, hOc0⟩ := hN.map
  have hbc := hN.box
  obtain rfl : Hc0 = [] := List.map_eq_nil_iff.1 hst2
  obtain rfl : lb2 = [] := List.eq_nil_of_length_eq_zero (rep_len hr2)
  have net_c : i ≠ i2 := fun e => by have h1 := hT.box.lt; have h2 := hN.box.old; omega
  have hmm : m ≠ m2 := fun e => by have h1 := hT.lt; have h2 := hN.old; omega
  refine RL.r (asgP rfl) rfl ?_
  refine RL.nil ?_
  refine WP.seq ?_
  refine WP.any ?_
  intro w2 hx; replace H := H.ext hx; replace hbt := hbt.ext hx; replace hbc := hbc.ext hx; replace hm := hm.ext hx; replace hmc := hmc.ext hx
  refine AL.p 0 (by kernel_rfl) rfl (mvP rfl) rfl ?_
  refine AL.p 1 (by kernel_rfl) rfl (mvP rfl) rfl ?_
  refine AL.p 2 (by kernel_rfl) rfl (mvP rfl) rfl ?_
  refine AL.p 3 (by kernel_rfl) rfl (nilck rfl) rfl ?_
  refine AL.p 4 (by kernel_rfl) rfl (fa_box rfl) rfl ?_
  refine AL.p 6 (by kernel_rfl) rfl (mvP rfl) rfl ?_
  refine AL.p 7 (by kernel_rfl) rfl (nilck rfl) rfl ?_
  refine AL.p 8 (by kernel_rfl) rfl (fa_box rfl) rfl ?_
  refine AL.m 5 (by kernel_rfl) rfl (ld_box rfl hbt rfl) rfl ?_
  refine AL.m 9 (by kernel_rfl) rfl (ld_box rfl hbt rfl) rfl ?_
  refine AL.p 10 (by kernel_rfl) rfl (nilck rfl) rfl ?_
  refine AL.p 11 (by kernel_rfl) rfl (fa_box rfl) rfl ?_
  refine AL.o 12 (by kernel_rfl) rfl ?_
  have hbc_0 := hbc
  refine RL.store1 rfl hbc rfl rfl rfl rfl ?_
  intro w3 hu hbc
  replace hm := hm.upd hu (hm.neb hbc_0)
  replace hmc := hmc.upd hu (hmc.neb hbc_0)
  replace H := H.box hu hbc.old; replace hbt := hbt.upd hu net_c
  refine RL.nil ?_
  refine AL.p 13 (by kernel_rfl) rfl (nilck rfl) rfl ?_
  refine AL.p 14 (by kernel_rfl) rfl (fa_box rfl) rfl ?_
  refine AL.o 15 (by kernel_rfl) rfl ?_
  have hbc_0 := hbc
  refine RL.store1 rfl hbc rfl rfl rfl rfl ?_
  intro w4 hu hbc
  replace hm := hm.upd hu (hm.neb hbc_0)
  replace hmc := hmc.upd hu (hmc.neb hbc_0)
  replace H := H.box hu hbc.old; replace hbt := hbt.upd hu net_c
  refine RL.nil ?_
  refine AL.nil (by kernel_rfl) ?_
  refine WP.seq ?_
  refine WP.regionS ?_
  refine RL.r (mvP rfl) rfl ?_
  refine RL.r (nilck rfl) rfl ?_
  refine RL.r (fa_box rfl) rfl ?_
  refine RL.m (ld_box rfl hbt rfl) rfl ?_
  refine RL.rangeM rfl hm rfl ?_
  intro w5 it hit hx hI
  have hitB : w0.heap.size ≤ it := by have := H.size; omega
  replace H := H.ext hx; replace hbt := hbt.ext hx; replace hbc := hbc.ext hx; replace hm := hm.ext hx; replace hmc := hmc.ext hx; clear hx
  refine RL.nil ?_
  refine WP.block ?_
  refine WP.loop (fun k e' w' => ∃ j : Nat, ∃ (done : List (ByteArray × Value × Nat)) (seen : Array Nat) (Hc : List Seat) (lbc : List (ByteArray × Value × Nat)) (cc : Nat),  j + k = lb.length ∧ Head [4, 5, 26, 27, 28, 29, 30, 31, 32, 33, 34, 35, 36, 37] _ [] e' ∧ Ext w0 w' ∧ Box B w' i 75 [.int .i64 G.gen, .bool G.rb, .map (some m)] ∧ Box w0.heap.size w' i2 75 [.int .i64 G.gen, .bool G.rb, .map (some m2)] ∧ MpB Try.prog 9 B w' m lb c ∧ ItM w' it m c seen ∧ Seen lb done seen ∧ done.length = j ∧ MpB Try.prog 9 w0.heap.size w' m2 lbc cc ∧ Rep lbc Hc ∧ Hc.Pairwise bfr ∧ (Hc.map Seat.st).Perm (done.map (stq H0)) ∧ Owns w0.heap.size w' Hc) (lb.length)
    ⟨0, [], #[], [], _, _, by omega, Head.intro (AgreeOff.refl _ _) trivial, H, hbt, hbc, hm, hI, Seen.nil lb, rfl, hmc, List.Perm.refl _, List.Pairwise.nil, List.Perm.refl _, Owns.nil _ _⟩ ?_
  clear H hbt hbc hm hmc hI
  rintro k e w6 ⟨j, done, seen, Hc, lbc, cc, hjk, ⟨jk, rfl⟩, H, hbt, hbc, hm, hI, hS, hdl, hmc, hrc, hsc, hpc, hOc⟩
  have hle := hS.le
  have hnodc := hmc.nod
  refine WP.regionS ?_
  refine RL.nextM rfl hI hm rfl ?_
  intro w7 o hu ho
  have n1 := hI.ne hm
  have n2 := hI.neb hbt
  have n3 := hI.neb hbc
  have n4 := hI.ne hmc
  replace hOc := hOc.upd hu (fun x hx k hk e => hI.nea (hOc x hx) (e ▸ hk))
  replace H := H.box hu hitB
  replace hbt := hbt.upd hu (Ne.symm n2)
  replace hbc := hbc.upd hu (Ne.symm n3)
  replace hm := hm.upd hu (Ne.symm n1)
  replace hmc := hmc.upd hu (Ne.symm n4)
  clear hI hu
  refine RL.r (ex0k rfl) rfl ?_
  refine RL.nil ?_
  refine WP.seq ?_
  refine WP.cond rfl (fun hc => ?_) (fun hc => ?_)
  · refine WP.skip ?_
    refine WP.block ?_
    refine WP.regionS ?_
    obtain ⟨q, rfl⟩ := Option.ne_none_iff_exists'.1 hc
    obtain ⟨hq, hqs, hI⟩ := ho
    have hS2 := hS.push hq hqs
    have hle2 := hS2.le
    rw [List.length_append, List.length_singleton] at hle2
    obtain ⟨h9, hh9, hn9, hv9, hg9⟩ := rep_entry hr hnod hq
    have ht9 : h9.topics.length ≤ 8 := by
      have h1 := topics_le hok (s := h9.st) (by rw [← hst]; exact List.mem_map.2 ⟨h9, hh9, rfl⟩)
      exact h1
    refine RL.m (entK rfl hI hm hq hv9) rfl ?_
    refine RL.r (ex0 rfl) rfl ?_
    refine RL.r (ex1 rfl) rfl ?_
    refine RL.alloc w0.heap.size H.size rfl rfl ?_
    intro w8 i5 hi5 hx hb5
    have net_5 := hbt.ne hi5
    have nec_5 := hbc.ne hi5
    refine RL.r (asgS rfl) rfl ?_
    refine RL.storeS rfl hb5 rfl rfl rfl rfl ?_
    intro w9 hu hb5
    replace hx := hx.box hu (Nat.le_of_eq hi5.symm)
    replace H := H.ext hx; replace hbt := hbt.ext hx; replace hbc := hbc.ext hx; replace hm := hm.ext hx; replace hI := hI.ext hx; replace hmc := hmc.ext hx; replace hOc := hOc.ext hx; clear hx hu
    refine RL.nil ?_
    refine WP.cutN (α := Seat) [31, 32, 33, 34, 35, 36, 37] (fun x => []) (fun x w' => Ext w0 w' ∧ Box B w' i 75 [.int .i64 G.gen, .bool G.rb, .map (some m)] ∧ Box w0.heap.size w' i2 75 [.int .i64 G.gen, .bool G.rb, .map (some m2)] ∧ Box w0.heap.size w' i5 31 (Lies.enc h9) ∧ x.st = h9.st ∧ Own w0.heap.size w' 9 x.ta x.tc x.topics ∧ MpB Try.prog 9 B w' m lb c ∧ ItM w' it m c (seen.push q.2.2) ∧ MpB Try.prog 9 w0.heap.size w' m2 (setB lbc cc q.1 (Valued.val x)) (nextB lbc cc q.1) ∧ Owns w0.heap.size w' Hc) ?_ ?_
    · refine WP.any ?_
      intro w10 hx; replace H := H.ext hx; replace hbt := hbt.ext hx; replace hbc := hbc.ext hx; replace hb5 := hb5.ext hx; replace hm := hm.ext hx; replace hI := hI.ext hx; replace hmc := hmc.ext hx; replace hOc := hOc.ext hx
      refine AL.p 0 (by kernel_rfl) rfl (mvP rfl) rfl ?_
      refine AL.p 1 (by kernel_rfl) rfl (nilck rfl) rfl ?_
      refine AL.p 2 (by kernel_rfl) rfl (fa_box rfl) rfl ?_
      refine AL.p 4 (by kernel_rfl) rfl (mvS rfl) rfl ?_
      refine AL.m 5 (by kernel_rfl) rfl (ldS_box rfl hb5 (Nat.le_of_ble_eq_true rfl) rfl) rfl ?_
      refine AL.all (rs := [3, 6]) (by kernel_rfl) rfl ?_
      rintro i hi; simp only [List.mem_cons, List.not_mem_nil, or_false] at hi; rcases hi with rfl | rfl
      · refine ⟨_, rfl, ?_⟩
        refine RL.m (ld_box rfl hbc rfl) rfl ?_
        refine RL.nil ?_
        refine AL.o 6 (by kernel_rfl) rfl ?_
        -- call stagecoach/group.own (tmp 36)
        have hsz := H.size
        refine RL.call (gOwn _ h9 ((how h9 hh9).sl.ext H) (by omega)) rfl rfl ?_
        rintro v w11 ⟨⟨s2, rfl, hss, hO⟩, hx⟩
        replace H := H.ext hx; replace hbt := hbt.ext hx; replace hbc := hbc.ext hx; replace hb5 := hb5.ext hx; replace hm := hm.ext hx; replace hI := hI.ext hx; replace hmc := hmc.ext hx; replace hOc := hOc.ext hx
        refine RL.nil ?_
        refine AL.o 7 (by kernel_rfl) rfl ?_
        refine RL.updM (k := q.1) (v := Valued.val s2) rfl hmc rfl rfl ?_
        intro w12 hu hm'
        replace hbt := hbt.upd hu (fun e => hmc.neb hbt e.symm)
        replace hbc := hbc.upd hu (fun e => hmc.neb hbc e.symm)
        replace hb5 := hb5.upd hu (fun e => hmc.neb hb5 e.symm)
        replace hm := hm.upd hu hmm
        replace hI := hI.upd hu (hI.ne hmc)
        replace H := H.mp hu hmc.old
        replace hOc := hOc.mp hmc hu
        replace hO := hO.upd hu (fun k hk e => hmc.nea hO (e ▸ hk))
        refine RL.nil ?_
        refine AL.nil (by kernel_rfl) ?_
        refine ⟨s2, Head.intro (by repeat (first | with_reducible exact AgreeOff.refl _ _ | with_reducible exact AgreeOff.mix _ _ _ | refine AgreeOff.look rfl ?_ | refine AgreeOff.mixs rfl ?_)) trivial, H, hbt, hbc, hb5, hss, hO.mono hsz, hm, hI, hm', hOc⟩
      · refine ⟨_, rfl, ?_⟩
        -- call stagecoach/group.own (tmp 36)
        have hsz := H.size
        refine RL.call (gOwn _ h9 ((how h9 hh9).sl.ext H) (by omega)) rfl rfl ?_
        rintro v w13 ⟨⟨s2, rfl, hss, hO⟩, hx⟩
        replace H := H.ext hx; replace hbt := hbt.ext hx; replace hbc := hbc.ext hx; replace hb5 := hb5.ext hx; replace hm := hm.ext hx; replace hI := hI.ext hx; replace hmc := hmc.ext hx; replace hOc := hOc.ext hx
        refine RL.nil ?_
        refine AL.m 3 (by kernel_rfl) rfl (ld_box rfl hbc rfl) rfl ?_
        refine AL.o 7 (by kernel_rfl) rfl ?_
        refine RL.updM (k := q.1) (v := Valued.val s2) rfl hmc rfl rfl ?_
        intro w14 hu hm'
        replace hbt := hbt.upd hu (fun e => hmc.neb hbt e.symm)
        replace hbc := hbc.upd hu (fun e => hmc.neb hbc e.symm)
        replace hb5 := hb5.upd hu (fun e => hmc.neb hb5 e.symm)
        replace hm := hm.upd hu hmm
        replace hI := hI.upd hu (hI.ne hmc)
        replace H := H.mp hu hmc.old
        replace hOc := hOc.mp hmc hu
        replace hO := hO.upd hu (fun k hk e => hmc.nea hO (e ▸ hk))
        refine RL.nil ?_
        refine AL.nil (by kernel_rfl) ?_
        refine ⟨s2, Head.intro (by repeat (first | with_reducible exact AgreeOff.refl _ _ | with_reducible exact AgreeOff.mix _ _ _ | refine AgreeOff.look rfl ?_ | refine AgreeOff.mixs rfl ?_)) trivial, H, hbt, hbc, hb5, hss, hO.mono hsz, hm, hI, hm', hOc⟩
    rintro s2 jc w15 ⟨H, hbt, hbc, hb5, hss, hO, hm, hI, hm9, hOc⟩
    have hk2 : s2.name = q.1 := (congrArg St.name hss).trans hn9
    refine ⟨k - 1, by omega, j + 1, done ++ [q], seen.push q.2.2, ePut Hc s2, _, _, by omega, Head.intro (by repeat (first | with_reducible exact AgreeOff.mix _ _ _ | refine AgreeOff.look rfl ?_ | refine AgreeOff.mixs rfl ?_)) trivial, H, hbt, hbc, hm, hI, hS2, by simp [hdl], hm9, by rw [← hk2]; exact rep_put hrc hnodc _ _, ePut_sorted hsc _, copy_step hr hnod hS hq hqs hpc hsc hg9 hss hk2, hOc.put hO⟩
  · refine WP.exit ?_
    refine WP.regionS ?_
    refine RL.r (mvP rfl) rfl ?_
    refine RL.r (asgP rfl) rfl ?_
    refine RL.nil ?_
    refine WP.ret ?_
    obtain rfl : o = none := Classical.not_not.1 hc
    obtain ⟨hall, hI⟩ := ho
    have hp := (hS.perm hnob hall).map (stq H0)
    have hfin : Hc.map Seat.st = G.S := by
      refine sorted_eq ((srt_map key_st Hc).2 hsc) hok.srt ?_
      refine hpc.trans (hp.trans ?_)
      rw [← hst]
      exact stq_all hr hnod
    refine fin1_ret rfl ⟨⟨i2, m2, rfl, hbc, ⟨Hc, lbc, cc, hmc, hrc, hfin, hOc⟩, hok⟩, H⟩
end Go.Proofs.Ytlkpgeopcdhgjaa
