/-
  The walks of a group's mutators: Leave, Beat, Join.
-/
import Derived.Test.YtlkpgeopcdhgjaaGrp2
import Derived.Test.YtlkpgeopcdhgjaaEnt
set_option linter.unusedVariables false
namespace Go.Proofs.Ytlkpgeopcdhgjaa
open Go Go.Eng Go.RowKit
theorem owns_xg {B B' i m : Nat} {w w' : World} {G : Gs} {H : List Seat} (hT : Tg B w i m G) (h : Owns B' w H) (k : Upd (XG i m) w w') : Owns B' w' H :=
  h.upd k (fun x hx j hj e => by
    rcases e with e | e
    · exact (h x hx).box_apart hT.box (by decide) (e ▸ hj)
    · exact hT.nea (h x hx) (e ▸ hj))
theorem srt_nd {S : List St} (hs : S.Pairwise bfr) : S.Nodup := hs.imp fun h e => by subst e; exact bfr_irr _ h
theorem beatS_put {S : List St} (hs : S.Pairwise bfr) {s : St} (h : eGet S s.name = some s) (now : Int) : ePut S { s with seen := max s.seen now } = beatS S s.name now := by
  obtain ⟨hm, _⟩ := eGet_some h
  refine sorted_eq (ePut_sorted hs _) ((srt_map (key_beat _ now) _).2 hs) ?_
  have hn := srt_nodup hs
  have hn2 : (beatS S s.name now).Nodup := srt_nd ((srt_map (key_beat s.name now) _).2 hs)
  have hn1 : (ePut S { s with seen := max s.seen now }).Nodup := srt_nd (ePut_sorted hs _)
  rw [List.perm_ext_iff_of_nodup hn1 hn2]
  intro x
  rw [ePut_mem]
  unfold beatS
  rw [List.mem_map]
  constructor
  · rintro (rfl | ⟨h1, h2⟩)
    · exact ⟨s, hm, by unfold beat1; rw [if_pos rfl]⟩
    · exact ⟨x, h1, by unfold beat1; exact if_neg h2⟩
  · rintro ⟨y, hy, rfl⟩
    unfold beat1
    by_cases e : y.name = s.name
    · have : y = s := key_inj hn hy hm e
      subst this
      rw [if_pos rfl]; exact .inl rfl
    · rw [if_neg e]; exact .inr ⟨hy, e⟩
theorem fence0 {G : Gs} {name : ByteArray} {gen : Int} (h : fenceE G name gen = 0) : eGet G.S name ≠ none ∧ gen = G.gen := by
  unfold fenceE at h
  split at h
  · cases h
  · split at h
    · cases h
    · exact ⟨by assumption, Classical.not_not.1 (by assumption)⟩
section
variable {G : Gs} {s : St} {rb : Bool} {n : Nat} {o : Option Seat}
theorem joinE_1 (h1 : ¬ mayS s) : joinE G s rb = 1 := by unfold joinE; rw [if_pos h1]
theorem joinE_m (h1 : ¬ ¬ mayS s) (hn : n = G.S.length) (h2 : (0 : Int) < (n : Int) ∧ G.rb ≠ rb) : joinE G s rb = 112 := by
  unfold joinE; rw [if_neg h1, if_pos ⟨by have := h2.1; omega, h2.2⟩]
theorem joinE_b (h1 : ¬ ¬ mayS s) (hn : n = G.S.length) (h2 : ¬ ((0 : Int) < (n : Int) ∧ G.rb ≠ rb)) (ho : o = none ↔ eGet G.S s.name = none) (h3 : (8 : Int) ≤ (n : Int) ∧ ¬ o ≠ none) : joinE G s rb = 2 := by
  unfold joinE; rw [if_neg h1, if_neg (fun h => h2 ⟨by have := h.1; omega, h.2⟩), if_pos (.inl ⟨by have := h3.1; omega, ho.1 (Classical.not_not.1 h3.2)⟩)]
theorem joinE_g (h1 : ¬ ¬ mayS s) (hn : n = G.S.length) (h2 : ¬ ((0 : Int) < (n : Int) ∧ G.rb ≠ rb)) (h4 : (1099511627776 : Int) ≤ G.gen) : joinE G s rb = 2 := by
  unfold joinE; rw [if_neg h1, if_neg (fun h => h2 ⟨by have := h.1; omega, h.2⟩), if_pos (.inr h4)]
theorem joinE_0 (h1 : ¬ ¬ mayS s) (hn : n = G.S.length) (h2 : ¬ ((0 : Int) < (n : Int) ∧ G.rb ≠ rb)) (ho : o = none ↔ eGet G.S s.name = none) (h3 : ¬ ((8 : Int) ≤ (n : Int) ∧ ¬ o ≠ none)) (h4 : ¬ (1099511627776 : Int) ≤ G.gen) : joinE G s rb = 0 := by
  unfold joinE
  rw [if_neg h1, if_neg (fun h => h2 ⟨by have := h.1; omega, h.2⟩), if_neg]
  rintro (⟨h5, h6⟩ | h5)
  · exact h3 ⟨by omega, fun h => h (ho.2 h6)⟩
  · exact h4 h5
theorem join_no {k : Int} (h : joinE G s rb = k) (hk : k ≠ 0) : Value.tuple #[.int .i64 0, .int .i64 k] = .tuple #[.int .i64 (joinV G s rb), .int .i64 (joinE G s rb)] ∧ joinG G s rb = G := by
  unfold joinV joinG
  rw [h, if_neg hk, if_neg hk]
  exact ⟨rfl, rfl⟩
end
theorem gLeave (w0 : World) (B i m : Nat) (G : Gs) (hT : Tg B w0 i m G) (name : ByteArray) (gen : Int) :
    Ct Try.prog 13 #[.pointer (some ⟨i, 0, none⟩), .string name, .int .i64 gen] w0 fun v w' => (v = .int .i64 (fenceE G name gen) ∧ Tg B w' i m (leaveG G name gen)) ∧ Upd (XG i m) w0 w' := by
  refine Ct.intro1 Try.func13 Try.ntmps13 rfl rfl (by decide) rfl ?_
  have H : Upd (XG i m) w0 w0 := Upd.refl _ w0
  obtain ⟨H0, lb, c, hm, hr, hst, how⟩ := hT.map
  have hbt := hT.box
  have hok := hT.ok
  have hln := (rep_len hr).trans (st_len hst)
  have hle8 := hok.len
  have hnum := hok.num
  have hnum1 := hnum.1
  have hnum2 := hnum.2
  refine WP.regionS ?_
  refine RL.r (asgI rfl) rfl ?_
  refine RL.nil ?_
  refine WP.seq ?_
  refine WP.regionS ?_
  refine RL.r (mvP rfl) rfl ?_
  refine RL.r (mvS rfl) rfl ?_
  refine RL.r (mvI rfl) rfl ?_
  -- call (*stagecoach/group.Group).Fence (tmp 8) (tmp 9) (tmp 10)
  refine RL.call (gFence _ B i m G hT name gen) rfl rfl ?_
  rintro _ w1 ⟨rfl, hx⟩
  replace H := H.ext hx; replace hbt := hbt.ext hx; replace hm := hm.ext hx
  refine RL.r (asgI rfl) rfl ?_
  refine RL.nil ?_
  refine WP.regionS ?_
  refine RL.r (mvI rfl) rfl ?_
  refine RL.r (neq rfl rfl) rfl ?_
  refine RL.nil ?_
  refine WP.cond rfl (fun hc => ?_) (fun hc => ?_)
  · refine WP.regionS ?_
    refine RL.r (mvI rfl) rfl ?_
    refine RL.r (asgI rfl) rfl ?_
    refine RL.nil ?_
    refine WP.ret ?_
    refine fin1_ret rfl ⟨⟨rfl, by unfold leaveG; rw [if_neg hc]; exact ⟨hbt, ⟨H0, lb, c, hm, hr, hst, owns_xg hT how H⟩, hok⟩⟩, H⟩
  · refine WP.skip ?_
    refine WP.regionS ?_
    refine RL.r (mvP rfl) rfl ?_
    refine RL.r (nilck rfl) rfl ?_
    refine RL.r (fa_box rfl) rfl ?_
    refine RL.m (ld_box rfl hbt rfl) rfl ?_
    refine RL.r (mvS rfl) rfl ?_
    refine RL.delM0 (k := name) rfl hm rfl ?_
    intro w2 hu hm'
    replace hbt := hbt.upd hu (fun e => hm.neb hbt e.symm)
    replace H := Upd.upd H hu (fun k hk he => Or.inr he)
    replace hm := hm'
    refine RL.nil ?_
    refine WP.regionS ?_
    refine RL.r (mvP rfl) rfl ?_
    -- call (*stagecoach/group.Group).next (tmp 20)
    refine RL.call (gNext _ B i m G.gen G.rb hbt hnum) rfl rfl ?_
    rintro _ w3 ⟨⟨rfl, hb2⟩, hx⟩
    replace H := Upd.upd H hx (fun k hk he => Or.inl he); replace hm := hm.upd hx (hm.neb hbt)
    refine RL.nil ?_
    refine WP.regionS ?_
    refine RL.r (asgI rfl) rfl ?_
    refine RL.nil ?_
    refine WP.ret ?_
    have h0 := Classical.not_not.1 hc
    have hown := owns_xg hT how H
    refine fin1_ret rfl ⟨⟨intE h0.symm, ?_⟩, H⟩
    have hokl := okG_leave hok name gen
    have hg : leaveG G name gen = ⟨nextN G.gen, G.rb, eDel G.S name⟩ := by unfold leaveG; rw [if_pos h0]
    rw [hg] at hokl ⊢
    refine ⟨hb2, ⟨eDel H0 name, _, _, hm, rep_del hr name, ?_, hown.sub fun x hx => (eDel_mem.1 hx).1⟩, hokl⟩
    rw [← eDel_map key_st, hst]
theorem gBeat (w0 : World) (B i m : Nat) (G : Gs) (hT : Tg B w0 i m G) (name : ByteArray) (gen now : Int) :
    Ct Try.prog 29 #[.pointer (some ⟨i, 0, none⟩), .string name, .int .i64 gen, .int .i64 now] w0 fun v w' => (v = .int .i64 (beatE G name gen now) ∧ Tg B w' i m (beatG G name gen now)) ∧ Upd (XG i m) w0 w' := by
  refine Ct.intro1 Try.func29 Try.ntmps29 rfl rfl (by decide) rfl ?_
  have H : Upd (XG i m) w0 w0 := Upd.refl _ w0
  obtain ⟨H0, lb, c, hm, hr, hst, how⟩ := hT.map
  have hbt := hT.box
  have hok := hT.ok
  have hln := (rep_len hr).trans (st_len hst)
  have hle8 := hok.len
  have hnum := hok.num
  have hnum1 := hnum.1
  have hnum2 := hnum.2
  refine WP.regionS ?_
  refine RL.r (asgI rfl) rfl ?_
  refine RL.nil ?_
  refine WP.seq ?_
  refine WP.regionS ?_
  refine RL.r (mvI rfl) rfl ?_
  -- call stagecoach/group.number (tmp 11)
  refine RL.call (pNum _ now) rfl rfl ?_
  rintro _ w1 ⟨rfl, hx⟩
  replace H := H.ext hx; replace hbt := hbt.ext hx; replace hm := hm.ext hx
  first | refine RL.r (notD rfl) rfl ?_ | refine RL.r (not_ rfl) rfl ?_
  refine RL.nil ?_
  refine WP.cond rfl (fun hc => ?_) (fun hc => ?_)
  · refine WP.regionS ?_
    refine RL.r (asgI rfl) rfl ?_
    refine RL.nil ?_
    refine WP.ret ?_
    have hE : beatE G name gen now = 1 := by unfold beatE; rw [if_pos hc]
    refine fin1_ret rfl ⟨⟨intE hE.symm, by unfold beatG; rw [if_neg (by omega)]; exact ⟨hbt, ⟨H0, lb, c, hm, hr, hst, owns_xg hT how H⟩, hok⟩⟩, H⟩
  · refine WP.skip ?_
    refine WP.seq ?_
    refine WP.regionS ?_
    refine RL.r (mvP rfl) rfl ?_
    refine RL.r (mvS rfl) rfl ?_
    refine RL.r (mvI rfl) rfl ?_
    -- call (*stagecoach/group.Group).Fence (tmp 14) (tmp 15) (tmp 16)
    refine RL.call (gFence _ B i m G ⟨hbt, ⟨H0, lb, c, hm, hr, hst, owns_xg hT how H⟩, hok⟩ name gen) rfl rfl ?_
    rintro _ w2 ⟨rfl, hx⟩
    replace H := H.ext hx; replace hbt := hbt.ext hx; replace hm := hm.ext hx
    refine RL.r (asgI rfl) rfl ?_
    refine RL.nil ?_
    refine WP.regionS ?_
    refine RL.r (mvI rfl) rfl ?_
    refine RL.r (neq rfl rfl) rfl ?_
    refine RL.nil ?_
    refine WP.cond rfl (fun hc => ?_) (fun hc => ?_)
    · refine WP.regionS ?_
      refine RL.r (mvI rfl) rfl ?_
      refine RL.r (asgI rfl) rfl ?_
      refine RL.nil ?_
      refine WP.ret ?_
      have hE : beatE G name gen now = fenceE G name gen := by unfold beatE; rw [if_neg (by assumption)]
      refine fin1_ret rfl ⟨⟨intE hE.symm, by unfold beatG; rw [if_neg (by rw [hE]; exact hc)]; exact ⟨hbt, ⟨H0, lb, c, hm, hr, hst, owns_xg hT how H⟩, hok⟩⟩, H⟩
    · refine WP.skip ?_
      refine WP.regionS ?_
      refine RL.r (mvP rfl) rfl ?_
      refine RL.r (nilck rfl) rfl ?_
      refine RL.r (fa_box rfl) rfl ?_
      refine RL.m (ld_box rfl hbt rfl) rfl ?_
      refine RL.r (mvS rfl) rfl ?_
      have h0 := Classical.not_not.1 hc
      have hE : beatE G name gen now = 0 := by unfold beatE; rw [if_neg (by assumption)]; exact h0
      obtain ⟨hne, rfl⟩ := fence0 h0
      have hne2 : eGet H0 name ≠ none := fun h => hne ((st_none hst name).1 h)
      obtain ⟨h9, hg9⟩ := Option.ne_none_iff_exists'.1 hne2
      have hgS : eGet G.S name = some h9.st := by rw [st_get hst, hg9]; rfl
      obtain rfl : h9.name = name := (eGet_some hg9).2
      refine RL.m (lkS (z0 := zSeat) (k := h9.name) rfl hm rfl ((rep_get hr hm.nod _).trans (congrArg _ hg9)) rfl) rfl ?_
      refine RL.alloc w0.heap.size H.size rfl rfl ?_
      intro w3 i10 hi10 hx hb10
      have net_10 := hbt.ne hi10
      refine RL.storeS rfl hb10 rfl rfl rfl rfl ?_
      intro w4 hu hb10
      replace hx := hx.box hu (Nat.le_of_eq hi10.symm)
      replace H := H.ext hx; replace hbt := hbt.ext hx; replace hm := hm.ext hx; clear hx hu
      refine RL.nil ?_
      refine WP.regionS ?_
      refine RL.r (fa_box rfl) rfl ?_
      refine RL.m (ld_box rfl hb10 rfl) rfl ?_
      refine RL.r (mvI rfl) rfl ?_
      refine RL.r (max_i rfl rfl) rfl ?_
      refine RL.r (fa_box rfl) rfl ?_
      have hb10_0 := hb10
      refine RL.store1 rfl hb10 rfl rfl rfl rfl ?_
      intro w5 hu hb10
      replace hm := hm.upd hu (hm.neb hb10_0)
      replace H := H.box hu hb10.old; replace hbt := hbt.upd hu net_10
      refine RL.nil ?_
      refine WP.seq ?_
      refine WP.any ?_
      intro w6 hx; replace H := H.ext hx; replace hbt := hbt.ext hx; replace hb10 := hb10.ext hx; replace hm := hm.ext hx
      refine AL.p 0 (by kernel_rfl) rfl (mvP rfl) rfl ?_
      refine AL.p 1 (by kernel_rfl) rfl (nilck rfl) rfl ?_
      refine AL.p 2 (by kernel_rfl) rfl (fa_box rfl) rfl ?_
      refine AL.p 4 (by kernel_rfl) rfl (mvS rfl) rfl ?_
      refine AL.m 3 (by kernel_rfl) rfl (ld_box rfl hbt rfl) rfl ?_
      refine AL.m 5 (by kernel_rfl) rfl (ldS_box rfl hb10 (Nat.le_of_ble_eq_true rfl) rfl) rfl ?_
      refine AL.o 6 (by kernel_rfl) rfl ?_
      refine RL.updM (k := h9.name) (v := Valued.val ({ h9 with seen := max h9.seen now } : Seat)) rfl hm rfl rfl ?_
      intro w7 hu hm'
      replace hbt := hbt.upd hu (fun e => hm.neb hbt e.symm)
      replace H := Upd.upd H hu (fun k hk he => Or.inr he)
      refine RL.nil ?_
      refine AL.nil (by kernel_rfl) ?_
      refine WP.regionS ?_
      refine RL.r (asgI rfl) rfl ?_
      refine RL.nil ?_
      refine WP.ret ?_
      have hown := owns_xg hT how H
      refine fin1_ret rfl ⟨⟨intE hE.symm, ?_⟩, H⟩
      have hokl := okG_beat hok h9.name G.gen now
      have hg : beatG G h9.name G.gen now = ⟨G.gen, G.rb, beatS G.S h9.name now⟩ := by unfold beatG; rw [if_pos hE]
      rw [hg] at hokl ⊢
      refine ⟨hbt, ⟨ePut H0 { h9 with seen := max h9.seen now }, _, _, hm', rep_put hr hm.nod _ ({ h9 with seen := max h9.seen now } : Seat), ?_, hown.put (hown h9 (eGet_some hg9).1)⟩, hokl⟩
      rw [← ePut_map key_st, hst]
      exact beatS_put (s := h9.st) hok.srt hgS now
theorem gJoin (w0 : World) (B i m : Nat) (G : Gs) (hT : Tg B w0 i m G) (s : Seat) (robin : Bool) (hl : Sl w0 s.ta s.topics) (hlen : s.topics.length ≤ 100000) :
    Ct Try.prog 10 #[.pointer (some ⟨i, 0, none⟩), .agg (Lies.enc s).toArray, .bool robin] w0 fun v w' => (v = .tuple #[.int .i64 (joinV G s.st robin), .int .i64 (joinE G s.st robin)] ∧ Tg B w' i m (joinG G s.st robin)) ∧ Upd (XG i m) w0 w' := by
  refine Ct.intro2 Try.func10 Try.ntmps10 rfl rfl (by decide) rfl ?_
  have H : Upd (XG i m) w0 w0 := Upd.refl _ w0
  obtain ⟨H0, lb, c, hm, hr, hst, how⟩ := hT.map
  have hbt := hT.box
  have hok := hT.ok
  have hln := (rep_len hr).trans (st_len hst)
  have hle8 := hok.len
  have hnum := hok.num
  have hnum1 := hnum.1
  have hnum2 := hnum.2
  refine WP.regionS ?_
  refine RL.boxS w0.heap.size H.size rfl rfl ?_
  intro w1 i4 hi4 hx hb4
  have net_4 := hbt.ne hi4
  replace H := H.ext hx; replace hm := hm.ext hx; replace hbt := hbt.ext hx; replace hl := hl.ext hx; clear hx
  refine RL.r (asgI rfl) rfl ?_
  refine RL.r (asgI rfl) rfl ?_
  refine RL.nil ?_
  refine WP.seq ?_
  refine WP.any ?_
  intro w2 hx; replace H := H.ext hx; replace hm := hm.ext hx; replace hbt := hbt.ext hx; replace hb4 := hb4.ext hx; replace hl := hl.ext hx
  refine AL.p 0 (by kernel_rfl) rfl (mvP rfl) rfl ?_
  refine AL.p 1 (by kernel_rfl) rfl (nilck rfl) rfl ?_
  refine AL.p 2 (by kernel_rfl) rfl (fa_box rfl) rfl ?_
  refine AL.p 4 (by kernel_rfl) rfl (fa_box rfl) rfl ?_
  refine AL.p 5 (by kernel_rfl) rfl (fa_box rfl) rfl ?_
  refine AL.m 3 (by kernel_rfl) rfl (ld_box rfl hbt rfl) rfl ?_
  refine AL.m 6 (by kernel_rfl) rfl (ld_box rfl hb4 rfl) rfl ?_
  refine AL.m 7 (by kernel_rfl) rfl (lkSO (z0 := zSeat) (k := s.name) rfl hm rfl (rep_get hr hm.nod _) rfl) rfl ?_
  refine AL.p 8 (by kernel_rfl) rfl (mvU rfl) rfl ?_
  refine AL.p 9 (by kernel_rfl) rfl (ex0 rfl) rfl ?_
  refine AL.p 10 (by kernel_rfl) rfl (ex1 rfl) rfl ?_
  refine AL.o 11 (by kernel_rfl) rfl ?_
  refine RL.alloc w0.heap.size H.size rfl rfl ?_
  intro w3 i8 hi8 hx hb8
  have net_8 := hbt.ne hi8
  have ne4_8 := hb4.ne hi8
  refine RL.nil ?_
  refine AL.o 12 (by kernel_rfl) rfl ?_
  refine RL.storeS rfl hb8 rfl rfl rfl rfl ?_
  intro w4 hu hb8
  replace hx := hx.box hu (Nat.le_of_eq hi8.symm)
  replace H := H.ext hx; replace hm := hm.ext hx; replace hbt := hbt.ext hx; replace hb4 := hb4.ext hx; replace hl := hl.ext hx; clear hx hu
  refine RL.nil ?_
  refine AL.p 13 (by kernel_rfl) rfl (asgB rfl) rfl ?_
  refine AL.nil (by kernel_rfl) ?_
  refine WP.seq ?_
  refine WP.cut (α := Unit) [6, 7, 21, 22, 23, 24, 25, 26, 27, 28, 29, 30, 31, 32, 33, 34, 35, 36, 37, 38, 39, 40, 41, 42, 43, 44, 45, 46, 47, 48, 49, 50, 51, 52, 53, 54, 55] (fun x => []) (fun x w' => Upd (XG i m) w0 w' ∧ MpB Try.prog 9 B w' m lb c ∧ Box B w' i 75 [.int .i64 G.gen, .bool G.rb, .map (some m)] ∧ Box w0.heap.size w' i4 31 (Lies.enc s) ∧ Box w0.heap.size w' i8 31 (Lies.enc ((eGet H0 s.name).getD zSeat)) ∧ joinE G s.st robin = 0 ∧ Sl w' s.ta s.topics) ?_ ?_
  · refine WP.block ?_
    refine WP.regionS ?_
    refine RL.m (ldS_box rfl hb4 (Nat.le_of_ble_eq_true rfl) rfl) rfl ?_
    -- call stagecoach/group.may (tmp 22)
    refine RL.call (gMay _ s hl (by omega)) rfl rfl ?_
    rintro _ w5 ⟨rfl, hx⟩
    replace H := H.ext hx; replace hm := hm.ext hx; replace hbt := hbt.ext hx; replace hb4 := hb4.ext hx; replace hb8 := hb8.ext hx; replace hl := hl.ext hx
    first | refine RL.r (notD rfl) rfl ?_ | refine RL.r (not_ rfl) rfl ?_
    refine RL.r (asgB rfl) rfl ?_
    refine RL.nil ?_
    refine WP.cond rfl (fun hc => ?_) (fun hc => ?_)
    · refine WP.regionS ?_
      refine RL.r (asgI rfl) rfl ?_
      refine RL.r (asgI rfl) rfl ?_
      refine RL.nil ?_
      refine WP.ret ?_
      have hno := join_no (G := G) (s := s.st) (rb := robin) (joinE_1 hc) (by decide)
      refine fin2_ret rfl rfl ⟨⟨hno.1, by rw [hno.2]; exact ⟨hbt, ⟨H0, lb, c, hm, hr, hst, owns_xg hT how H⟩, hok⟩⟩, H⟩
    · refine WP.seq (WP.quiet ?_)
      refine QL.r (mvP rfl) rfl ?_
      refine QL.r (nilck rfl) rfl ?_
      refine QL.r (fa_box rfl) rfl ?_
      refine QL.m (ld_box rfl hbt rfl) rfl ?_
      refine QL.m (lenMB rfl hm) rfl ?_
      refine QL.r (gtr rfl rfl) rfl ?_
      refine QL.r (mvB rfl) rfl ?_
      refine QL.gg (gwT rfl rfl) (fun hg => (mvP rfl).does _) rfl ?_
      refine QL.gg (gwT rfl rfl) (fun hg => (nilck (gs hg rfl)).does _) rfl ?_
      refine QL.gg (gwT rfl rfl) (fun hg => (fa_box (gs hg rfl)).does _) rfl ?_
      refine QL.gg (gwT rfl rfl) (fun hg => ld_box (gs hg rfl) hbt rfl) rfl ?_
      refine QL.gg (gwT rfl rfl) (fun hg => (mvB rfl).does _) rfl ?_
      refine QL.gg (gwT rfl rfl) (fun hg => (bneq (gs hg rfl) (gs hg rfl)).does _) rfl ?_
      refine QL.r (pickAnd rfl (fun hn => gs hn rfl)) rfl ?_
      refine QL.r (asgB rfl) rfl ?_
      refine QL.nil ?_; intro w6 hx; replace H := H.ext hx; replace hm := hm.ext hx; replace hbt := hbt.ext hx; replace hb4 := hb4.ext hx; replace hb8 := hb8.ext hx; replace hl := hl.ext hx
      refine WP.cond rfl (fun hc => ?_) (fun hc => ?_)
      · refine WP.regionS ?_
        refine RL.r (asgI rfl) rfl ?_
        refine RL.r (asgI rfl) rfl ?_
        refine RL.nil ?_
        refine WP.ret ?_
        have hno := join_no (G := G) (s := s.st) (rb := robin) (joinE_m (by assumption) hln hc) (by decide)
        refine fin2_ret rfl rfl ⟨⟨hno.1, by rw [hno.2]; exact ⟨hbt, ⟨H0, lb, c, hm, hr, hst, owns_xg hT how H⟩, hok⟩⟩, H⟩
      · refine WP.seq ?_
        refine WP.seq (WP.quiet ?_)
        refine QL.r (mvP rfl) rfl ?_
        refine QL.r (nilck rfl) rfl ?_
        refine QL.r (fa_box rfl) rfl ?_
        refine QL.m (ld_box rfl hbt rfl) rfl ?_
        refine QL.m (lenMB rfl hm) rfl ?_
        refine QL.r (geq rfl rfl) rfl ?_
        refine QL.r (mvB rfl) rfl ?_
        refine QL.gg (gwT rfl rfl) (fun hg => (mvB rfl).does _) rfl ?_
        first | refine QL.gg (gwT rfl rfl) (fun hg => (notD (gs hg rfl)).does _) rfl ?_ | refine QL.gg (gwT rfl rfl) (fun hg => (not_ (gs hg rfl)).does _) rfl ?_
        refine QL.r (pickAnd rfl (fun hn => gs hn rfl)) rfl ?_
        refine QL.r (asgB rfl) rfl ?_
        refine QL.nil ?_; intro w7 hx; replace H := H.ext hx; replace hm := hm.ext hx; replace hbt := hbt.ext hx; replace hb4 := hb4.ext hx; replace hb8 := hb8.ext hx; replace hl := hl.ext hx
        refine WP.cond rfl (fun hc => ?_) (fun hc => ?_)
        · refine WP.skip ?_
          refine WP.cond rfl (fun hc => ?_) (fun hc => ?_)
          · refine WP.regionS ?_
            refine RL.r (asgI rfl) rfl ?_
            refine RL.r (asgI rfl) rfl ?_
            refine RL.nil ?_
            refine WP.ret ?_
            have hno := join_no (G := G) (s := s.st) (rb := robin) (joinE_b (by assumption) hln (by assumption) (st_none hst s.name) hc) (by decide)
            refine fin2_ret rfl rfl ⟨⟨hno.1, by rw [hno.2]; exact ⟨hbt, ⟨H0, lb, c, hm, hr, hst, owns_xg hT how H⟩, hok⟩⟩, H⟩
          · refine WP.skip ?_
            refine ⟨(), Head.intro (by repeat (first | with_reducible exact AgreeOff.refl _ _ | with_reducible exact AgreeOff.mix _ _ _ | refine AgreeOff.look rfl ?_ | refine AgreeOff.mixs rfl ?_)) trivial, H, hm, hbt, hb4, hb8, absurd (by assumption) hc, hl⟩
        · refine WP.region ?_
          refine RL.r (mvP rfl) rfl ?_
          refine RL.r (nilck rfl) rfl ?_
          refine RL.r (fa_box rfl) rfl ?_
          refine RL.m (ld_box rfl hbt rfl) rfl ?_
          refine RL.r (geq rfl rfl) rfl ?_
          refine RL.r (asgB rfl) rfl ?_
          refine RL.nil ?_
          refine WP.cond rfl (fun hc => ?_) (fun hc => ?_)
          · refine WP.regionS ?_
            refine RL.r (asgI rfl) rfl ?_
            refine RL.r (asgI rfl) rfl ?_
            refine RL.nil ?_
            refine WP.ret ?_
            have hno := join_no (G := G) (s := s.st) (rb := robin) (joinE_g (by assumption) hln (by assumption) hc) (by decide)
            refine fin2_ret rfl rfl ⟨⟨hno.1, by rw [hno.2]; exact ⟨hbt, ⟨H0, lb, c, hm, hr, hst, owns_xg hT how H⟩, hok⟩⟩, H⟩
          · refine WP.skip ?_
            refine ⟨(), Head.intro (by repeat (first | with_reducible exact AgreeOff.refl _ _ | with_reducible exact AgreeOff.mix _ _ _ | refine AgreeOff.look rfl ?_ | refine AgreeOff.mixs rfl ?_)) trivial, H, hm, hbt, hb4, hb8, joinE_0 (by assumption) hln (by assumption) (st_none hst s.name) (by assumption) hc, hl⟩
  rintro _ jc w8 ⟨H, hm, hbt, hb4, hb8, hE, hl⟩
  have hm0 := hm
  refine WP.seq ?_
  refine WP.cutN (α := Seat) [56, 57, 58, 59, 60, 61, 62, 63, 64, 65, 66, 67, 68, 69, 70] (fun x => []) (fun x w' => Upd (XG i m) w0 w' ∧ MpB Try.prog 9 B w' m (setB lb c s.name (Valued.val x)) (nextB lb c s.name) ∧ Box B w' i 75 [.int .i64 G.gen, .bool robin, .map (some m)] ∧ Box w0.heap.size w' i4 31 (Lies.enc s) ∧ Box w0.heap.size w' i8 31 (Lies.enc ((eGet H0 s.name).getD zSeat)) ∧ x.st = s.st ∧ Own w0.heap.size w' 9 x.ta x.tc x.topics) ?_ ?_
  · refine WP.any ?_
    intro w9 hx; replace H := H.ext hx; replace hm := hm.ext hx; replace hbt := hbt.ext hx; replace hb4 := hb4.ext hx; replace hb8 := hb8.ext hx; replace hl := hl.ext hx
    refine AL.p 0 (by kernel_rfl) rfl (mvP rfl) rfl ?_
    refine AL.p 1 (by kernel_rfl) rfl (nilck rfl) rfl ?_
    refine AL.p 2 (by kernel_rfl) rfl (fa_box rfl) rfl ?_
    refine AL.p 4 (by kernel_rfl) rfl (fa_box rfl) rfl ?_
    refine AL.p 5 (by kernel_rfl) rfl (fa_box rfl) rfl ?_
    refine AL.p 7 (by kernel_rfl) rfl (mvP rfl) rfl ?_
    refine AL.p 10 (by kernel_rfl) rfl (mvB rfl) rfl ?_
    refine AL.m 8 (by kernel_rfl) rfl (ldS_box rfl hb4 (Nat.le_of_ble_eq_true rfl) rfl) rfl ?_
    refine AL.all (rs := [3, 6, 9]) (by kernel_rfl) rfl ?_
    rintro i hi; simp only [List.mem_cons, List.not_mem_nil, or_false] at hi; rcases hi with rfl | rfl | rfl
    · refine ⟨_, rfl, ?_⟩
      refine RL.m (ld_box rfl hbt rfl) rfl ?_
      refine RL.nil ?_
      refine AL.all (rs := [6, 9]) (by kernel_rfl) rfl ?_
      rintro i hi; simp only [List.mem_cons, List.not_mem_nil, or_false] at hi; rcases hi with rfl | rfl
      · refine ⟨_, rfl, ?_⟩
        refine RL.m (ld_box rfl hb4 rfl) rfl ?_
        refine RL.nil ?_
        refine AL.o 9 (by kernel_rfl) rfl ?_
        -- call stagecoach/group.own (tmp 64)
        have hsz := H.size
        refine RL.call (gOwn _ s hl (by omega)) rfl rfl ?_
        rintro v w10 ⟨⟨s2, rfl, hss, hO⟩, hx⟩
        replace H := H.ext hx; replace hm := hm.ext hx; replace hbt := hbt.ext hx; replace hb4 := hb4.ext hx; replace hb8 := hb8.ext hx; replace hl := hl.ext hx
        refine RL.nil ?_
        refine AL.o 11 (by kernel_rfl) rfl ?_
        refine RL.entM (k := s.name) rfl hm rfl rfl ?_
        intro w11 hu hm1
        replace hbt := hbt.upd hu (fun e => hm.neb hbt e.symm)
        replace hb4 := hb4.upd hu (fun e => hm.neb hb4 e.symm)
        replace hb8 := hb8.upd hu (fun e => hm.neb hb8 e.symm)
        replace hO := hO.upd hu (fun k hk e => hm.nea hO (e ▸ hk))
        replace H := Upd.upd H hu (fun k hk he => Or.inr he)
        refine RL.nil ?_
        refine AL.p 12 (by kernel_rfl) rfl (ex1 rfl) rfl ?_
        refine AL.o 13 (by kernel_rfl) rfl ?_
        refine RL.entS (v := _) rfl hm1 rfl rfl ?_
        intro w12 hu hm'
        replace hbt := hbt.upd hu (fun e => hm1.neb hbt e.symm)
        replace hb4 := hb4.upd hu (fun e => hm1.neb hb4 e.symm)
        replace hb8 := hb8.upd hu (fun e => hm1.neb hb8 e.symm)
        replace hO := hO.upd hu (fun k hk e => hm1.nea hO (e ▸ hk))
        replace H := Upd.upd H hu (fun k hk he => Or.inr he)
        replace hm := hm'
        refine RL.nil ?_
        refine AL.p 14 (by kernel_rfl) rfl (nilck rfl) rfl ?_
        refine AL.p 15 (by kernel_rfl) rfl (fa_box rfl) rfl ?_
        refine AL.o 16 (by kernel_rfl) rfl ?_
        have hbt_0 := hbt
        refine RL.store1 rfl hbt rfl rfl rfl rfl ?_
        intro w13 hu hbt
        replace hO := hO.upd hu (fun k hk e => hO.box_apart hbt_0 (by decide) (e ▸ hk))
        replace hm := hm.upd hu (hm.neb hbt_0); replace H := Upd.upd H hu (fun k hk he => Or.inl he); replace hb4 := hb4.upd hu (Ne.symm net_4); replace hb8 := hb8.upd hu (Ne.symm net_8)
        refine RL.nil ?_
        refine AL.nil (by kernel_rfl) ?_
        refine ⟨s2, Head.intro (by repeat (first | with_reducible exact AgreeOff.refl _ _ | with_reducible exact AgreeOff.mix _ _ _ | refine AgreeOff.look rfl ?_ | refine AgreeOff.mixs rfl ?_)) trivial, H, hm, hbt, hb4, hb8, hss, hO.mono hsz⟩
      · refine ⟨_, rfl, ?_⟩
        -- call stagecoach/group.own (tmp 64)
        have hsz := H.size
        refine RL.call (gOwn _ s hl (by omega)) rfl rfl ?_
        rintro v w14 ⟨⟨s2, rfl, hss, hO⟩, hx⟩
        replace H := H.ext hx; replace hm := hm.ext hx; replace hbt := hbt.ext hx; replace hb4 := hb4.ext hx; replace hb8 := hb8.ext hx; replace hl := hl.ext hx
        refine RL.nil ?_
        refine AL.m 6 (by kernel_rfl) rfl (ld_box rfl hb4 rfl) rfl ?_
        refine AL.o 11 (by kernel_rfl) rfl ?_
        refine RL.entM (k := s.name) rfl hm rfl rfl ?_
        intro w15 hu hm1
        replace hbt := hbt.upd hu (fun e => hm.neb hbt e.symm)
        replace hb4 := hb4.upd hu (fun e => hm.neb hb4 e.symm)
        replace hb8 := hb8.upd hu (fun e => hm.neb hb8 e.symm)
        replace hO := hO.upd hu (fun k hk e => hm.nea hO (e ▸ hk))
        replace H := Upd.upd H hu (fun k hk he => Or.inr he)
        refine RL.nil ?_
        refine AL.p 12 (by kernel_rfl) rfl (ex1 rfl) rfl ?_
        refine AL.o 13 (by kernel_rfl) rfl ?_
        refine RL.entS (v := _) rfl hm1 rfl rfl ?_
        intro w16 hu hm'
        replace hbt := hbt.upd hu (fun e => hm1.neb hbt e.symm)
        replace hb4 := hb4.upd hu (fun e => hm1.neb hb4 e.symm)
        replace hb8 := hb8.upd hu (fun e => hm1.neb hb8 e.symm)
        replace hO := hO.upd hu (fun k hk e => hm1.nea hO (e ▸ hk))
        replace H := Upd.upd H hu (fun k hk he => Or.inr he)
        replace hm := hm'
        refine RL.nil ?_
        refine AL.p 14 (by kernel_rfl) rfl (nilck rfl) rfl ?_
        refine AL.p 15 (by kernel_rfl) rfl (fa_box rfl) rfl ?_
        refine AL.o 16 (by kernel_rfl) rfl ?_
        have hbt_0 := hbt
        refine RL.store1 rfl hbt rfl rfl rfl rfl ?_
        intro w17 hu hbt
        replace hO := hO.upd hu (fun k hk e => hO.box_apart hbt_0 (by decide) (e ▸ hk))
        replace hm := hm.upd hu (hm.neb hbt_0); replace H := Upd.upd H hu (fun k hk he => Or.inl he); replace hb4 := hb4.upd hu (Ne.symm net_4); replace hb8 := hb8.upd hu (Ne.symm net_8)
        refine RL.nil ?_
        refine AL.nil (by kernel_rfl) ?_
        refine ⟨s2, Head.intro (by repeat (first | with_reducible exact AgreeOff.refl _ _ | with_reducible exact AgreeOff.mix _ _ _ | refine AgreeOff.look rfl ?_ | refine AgreeOff.mixs rfl ?_)) trivial, H, hm, hbt, hb4, hb8, hss, hO.mono hsz⟩
    · refine ⟨_, rfl, ?_⟩
      refine RL.m (ld_box rfl hb4 rfl) rfl ?_
      refine RL.nil ?_
      refine AL.all (rs := [3, 9]) (by kernel_rfl) rfl ?_
      rintro i hi; simp only [List.mem_cons, List.not_mem_nil, or_false] at hi; rcases hi with rfl | rfl
      · refine ⟨_, rfl, ?_⟩
        refine RL.m (ld_box rfl hbt rfl) rfl ?_
        refine RL.nil ?_
        refine AL.o 9 (by kernel_rfl) rfl ?_
        -- call stagecoach/group.own (tmp 64)
        have hsz := H.size
        refine RL.call (gOwn _ s hl (by omega)) rfl rfl ?_
        rintro v w18 ⟨⟨s2, rfl, hss, hO⟩, hx⟩
        replace H := H.ext hx; replace hm := hm.ext hx; replace hbt := hbt.ext hx; replace hb4 := hb4.ext hx; replace hb8 := hb8.ext hx; replace hl := hl.ext hx
        refine RL.nil ?_
        refine AL.o 11 (by kernel_rfl) rfl ?_
        refine RL.entM (k := s.name) rfl hm rfl rfl ?_
        intro w19 hu hm1
        replace hbt := hbt.upd hu (fun e => hm.neb hbt e.symm)
        replace hb4 := hb4.upd hu (fun e => hm.neb hb4 e.symm)
        replace hb8 := hb8.upd hu (fun e => hm.neb hb8 e.symm)
        replace hO := hO.upd hu (fun k hk e => hm.nea hO (e ▸ hk))
        replace H := Upd.upd H hu (fun k hk he => Or.inr he)
        refine RL.nil ?_
        refine AL.p 12 (by kernel_rfl) rfl (ex1 rfl) rfl ?_
        refine AL.o 13 (by kernel_rfl) rfl ?_
        refine RL.entS (v := _) rfl hm1 rfl rfl ?_
        intro w20 hu hm'
        replace hbt := hbt.upd hu (fun e => hm1.neb hbt e.symm)
        replace hb4 := hb4.upd hu (fun e => hm1.neb hb4 e.symm)
        replace hb8 := hb8.upd hu (fun e => hm1.neb hb8 e.symm)
        replace hO := hO.upd hu (fun k hk e => hm1.nea hO (e ▸ hk))
        replace H := Upd.upd H hu (fun k hk he => Or.inr he)
        replace hm := hm'
        refine RL.nil ?_
        refine AL.p 14 (by kernel_rfl) rfl (nilck rfl) rfl ?_
        refine AL.p 15 (by kernel_rfl) rfl (fa_box rfl) rfl ?_
        refine AL.o 16 (by kernel_rfl) rfl ?_
        have hbt_0 := hbt
        refine RL.store1 rfl hbt rfl rfl rfl rfl ?_
        intro w21 hu hbt
        replace hO := hO.upd hu (fun k hk e => hO.box_apart hbt_0 (by decide) (e ▸ hk))
        replace hm := hm.upd hu (hm.neb hbt_0); replace H := Upd.upd H hu (fun k hk he => Or.inl he); replace hb4 := hb4.upd hu (Ne.symm net_4); replace hb8 := hb8.upd hu (Ne.symm net_8)
        refine RL.nil ?_
        refine AL.nil (by kernel_rfl) ?_
        refine ⟨s2, Head.intro (by repeat (first | with_reducible exact AgreeOff.refl _ _ | with_reducible exact AgreeOff.mix _ _ _ | refine AgreeOff.look rfl ?_ | refine AgreeOff.mixs rfl ?_)) trivial, H, hm, hbt, hb4, hb8, hss, hO.mono hsz⟩
      · refine ⟨_, rfl, ?_⟩
        -- call stagecoach/group.own (tmp 64)
        have hsz := H.size
        refine RL.call (gOwn _ s hl (by omega)) rfl rfl ?_
        rintro v w22 ⟨⟨s2, rfl, hss, hO⟩, hx⟩
        replace H := H.ext hx; replace hm := hm.ext hx; replace hbt := hbt.ext hx; replace hb4 := hb4.ext hx; replace hb8 := hb8.ext hx; replace hl := hl.ext hx
        refine RL.nil ?_
        refine AL.m 3 (by kernel_rfl) rfl (ld_box rfl hbt rfl) rfl ?_
        refine AL.o 11 (by kernel_rfl) rfl ?_
        refine RL.entM (k := s.name) rfl hm rfl rfl ?_
        intro w23 hu hm1
        replace hbt := hbt.upd hu (fun e => hm.neb hbt e.symm)
        replace hb4 := hb4.upd hu (fun e => hm.neb hb4 e.symm)
        replace hb8 := hb8.upd hu (fun e => hm.neb hb8 e.symm)
        replace hO := hO.upd hu (fun k hk e => hm.nea hO (e ▸ hk))
        replace H := Upd.upd H hu (fun k hk he => Or.inr he)
        refine RL.nil ?_
        refine AL.p 12 (by kernel_rfl) rfl (ex1 rfl) rfl ?_
        refine AL.o 13 (by kernel_rfl) rfl ?_
        refine RL.entS (v := _) rfl hm1 rfl rfl ?_
        intro w24 hu hm'
        replace hbt := hbt.upd hu (fun e => hm1.neb hbt e.symm)
        replace hb4 := hb4.upd hu (fun e => hm1.neb hb4 e.symm)
        replace hb8 := hb8.upd hu (fun e => hm1.neb hb8 e.symm)
        replace hO := hO.upd hu (fun k hk e => hm1.nea hO (e ▸ hk))
        replace H := Upd.upd H hu (fun k hk he => Or.inr he)
        replace hm := hm'
        refine RL.nil ?_
        refine AL.p 14 (by kernel_rfl) rfl (nilck rfl) rfl ?_
        refine AL.p 15 (by kernel_rfl) rfl (fa_box rfl) rfl ?_
        refine AL.o 16 (by kernel_rfl) rfl ?_
        have hbt_0 := hbt
        refine RL.store1 rfl hbt rfl rfl rfl rfl ?_
        intro w25 hu hbt
        replace hO := hO.upd hu (fun k hk e => hO.box_apart hbt_0 (by decide) (e ▸ hk))
        replace hm := hm.upd hu (hm.neb hbt_0); replace H := Upd.upd H hu (fun k hk he => Or.inl he); replace hb4 := hb4.upd hu (Ne.symm net_4); replace hb8 := hb8.upd hu (Ne.symm net_8)
        refine RL.nil ?_
        refine AL.nil (by kernel_rfl) ?_
        refine ⟨s2, Head.intro (by repeat (first | with_reducible exact AgreeOff.refl _ _ | with_reducible exact AgreeOff.mix _ _ _ | refine AgreeOff.look rfl ?_ | refine AgreeOff.mixs rfl ?_)) trivial, H, hm, hbt, hb4, hb8, hss, hO.mono hsz⟩
    · refine ⟨_, rfl, ?_⟩
      -- call stagecoach/group.own (tmp 64)
      have hsz := H.size
      refine RL.call (gOwn _ s hl (by omega)) rfl rfl ?_
      rintro v w26 ⟨⟨s2, rfl, hss, hO⟩, hx⟩
      replace H := H.ext hx; replace hm := hm.ext hx; replace hbt := hbt.ext hx; replace hb4 := hb4.ext hx; replace hb8 := hb8.ext hx; replace hl := hl.ext hx
      refine RL.nil ?_
      refine AL.m 3 (by kernel_rfl) rfl (ld_box rfl hbt rfl) rfl ?_
      refine AL.m 6 (by kernel_rfl) rfl (ld_box rfl hb4 rfl) rfl ?_
      refine AL.o 11 (by kernel_rfl) rfl ?_
      refine RL.entM (k := s.name) rfl hm rfl rfl ?_
      intro w27 hu hm1
      replace hbt := hbt.upd hu (fun e => hm.neb hbt e.symm)
      replace hb4 := hb4.upd hu (fun e => hm.neb hb4 e.symm)
      replace hb8 := hb8.upd hu (fun e => hm.neb hb8 e.symm)
      replace hO := hO.upd hu (fun k hk e => hm.nea hO (e ▸ hk))
      replace H := Upd.upd H hu (fun k hk he => Or.inr he)
      refine RL.nil ?_
      refine AL.p 12 (by kernel_rfl) rfl (ex1 rfl) rfl ?_
      refine AL.o 13 (by kernel_rfl) rfl ?_
      refine RL.entS (v := _) rfl hm1 rfl rfl ?_
      intro w28 hu hm'
      replace hbt := hbt.upd hu (fun e => hm1.neb hbt e.symm)
      replace hb4 := hb4.upd hu (fun e => hm1.neb hb4 e.symm)
      replace hb8 := hb8.upd hu (fun e => hm1.neb hb8 e.symm)
      replace hO := hO.upd hu (fun k hk e => hm1.nea hO (e ▸ hk))
      replace H := Upd.upd H hu (fun k hk he => Or.inr he)
      replace hm := hm'
      refine RL.nil ?_
      refine AL.p 14 (by kernel_rfl) rfl (nilck rfl) rfl ?_
      refine AL.p 15 (by kernel_rfl) rfl (fa_box rfl) rfl ?_
      refine AL.o 16 (by kernel_rfl) rfl ?_
      have hbt_0 := hbt
      refine RL.store1 rfl hbt rfl rfl rfl rfl ?_
      intro w29 hu hbt
      replace hO := hO.upd hu (fun k hk e => hO.box_apart hbt_0 (by decide) (e ▸ hk))
      replace hm := hm.upd hu (hm.neb hbt_0); replace H := Upd.upd H hu (fun k hk he => Or.inl he); replace hb4 := hb4.upd hu (Ne.symm net_4); replace hb8 := hb8.upd hu (Ne.symm net_8)
      refine RL.nil ?_
      refine AL.nil (by kernel_rfl) ?_
      refine ⟨s2, Head.intro (by repeat (first | with_reducible exact AgreeOff.refl _ _ | with_reducible exact AgreeOff.mix _ _ _ | refine AgreeOff.look rfl ?_ | refine AgreeOff.mixs rfl ?_)) trivial, H, hm, hbt, hb4, hb8, hss, hO.mono hsz⟩
  rintro s2 jc w30 ⟨H, hm, hbt, hb4, hb8, hss, hO⟩
  refine WP.regionS ?_
  refine RL.r (mvP rfl) rfl ?_
  refine RL.r (nilck rfl) rfl ?_
  refine RL.r (fa_box rfl) rfl ?_
  refine RL.m (ld_box rfl hbt rfl) rfl ?_
  refine RL.r (add rfl rfl (by omega)) rfl ?_
  refine RL.r (nilck rfl) rfl ?_
  refine RL.r (fa_box rfl) rfl ?_
  have hbt_0 := hbt
  refine RL.store1 rfl hbt rfl rfl rfl rfl ?_
  intro w31 hu hbt
  replace hm := hm.upd hu (hm.neb hbt_0); replace H := Upd.upd H hu (fun k hk he => Or.inl he); replace hb4 := hb4.upd hu (Ne.symm net_4); replace hb8 := hb8.upd hu (Ne.symm net_8)
  refine RL.nil ?_
  refine WP.regionS ?_
  refine RL.r (mvP rfl) rfl ?_
  refine RL.r (nilck rfl) rfl ?_
  refine RL.r (fa_box rfl) rfl ?_
  refine RL.m (ld_box rfl hbt rfl) rfl ?_
  refine RL.r (asgI rfl) rfl ?_
  refine RL.r (asgI rfl) rfl ?_
  refine RL.nil ?_
  refine WP.ret ?_
  replace hO := hO.upd hu (fun k hk e => hO.box_apart hbt_0 (by decide) (e ▸ hk))
  have hown := owns_xg hT how H
  have hV : joinV G s.st robin = G.gen + 1 := by unfold joinV; rw [if_pos hE]
  refine fin2_ret rfl rfl ⟨⟨tup_ii hV.symm hE.symm, ?_⟩, H⟩
  have hokl := okG_join hok s.st robin
  have hg : joinG G s.st robin = ⟨G.gen + 1, robin, ePut G.S s.st⟩ := by unfold joinG; rw [if_pos hE]
  rw [hg] at hokl ⊢
  have hk2 : s2.name = s.name := congrArg St.name hss
  refine ⟨hbt, ⟨ePut H0 s2, _, _, hm, by rw [← hk2]; exact rep_put hr hm0.nod _ _, ?_, hown.put (hO.mono (Nat.le_of_lt (Nat.lt_of_le_of_lt hT.box.old hT.box.lt)))⟩, hokl⟩
  rw [← ePut_map key_st, hst, hss]
end Go.Proofs.Ytlkpgeopcdhgjaa
