/-
  What the statements of chapter 11 ask at fixed seats: the walk.
-/
import Derived.Test.YtlkpgeopcdhgjaaFix11
set_option linter.unusedVariables false
namespace Go.Proofs.Ytlkpgeopcdhgjaa
open Go Go.Eng Go.RowKit
theorem rTexts (w0 : World) (a b : Option Addr) (c d : Nat) (x y : List ByteArray) (hx0 : Sl w0 a x) (hy0 : Sl w0 b y) (hlen : x.length ≤ 100000) :
    Ct Try.prog 30 #[.slice a x.length c, .slice b y.length d] w0 fun v w' => v = .bool (decide (x = y)) ∧ Ext w0 w' := by
  refine Ct.intro1 Try.func30 Try.ntmps30 rfl rfl (by decide) rfl ?_
  have H : Ext w0 w0 := Ext.refl w0
  refine WP.regionS ?_
  refine RL.r (asgB rfl) rfl ?_
  refine RL.nil ?_
  refine WP.seq ?_
  refine WP.regionS ?_
  refine RL.r (mvL rfl) rfl ?_
  refine RL.r (len_sl rfl) rfl ?_
  refine RL.r (mvL rfl) rfl ?_
  refine RL.r (len_sl rfl) rfl ?_
  refine RL.r (neq rfl rfl) rfl ?_
  refine RL.nil ?_
  refine WP.cond rfl (fun hc => ?_) (fun hc => ?_)
  · refine WP.regionS ?_
    refine RL.r (asgB rfl) rfl ?_
    refine RL.nil ?_
    refine WP.ret ?_
    refine fin1_ret rfl ⟨congrArg Value.bool (bF (fun h => hc (by rw [h]))), H⟩
  · refine WP.skip ?_
    refine WP.seq ?_
    refine WP.regionS ?_
    refine RL.r (asgI rfl) rfl ?_
    refine RL.nil ?_
    refine WP.block ?_
    refine WP.loop (fun k e' w' => ∃ j : Nat,  j + k = x.length ∧ Head [4, 5, 11, 12, 13, 14, 15, 16, 17, 18, 19, 20, 21, 22, 23, 24, 25] _ [(5, .int .i64 (j : Int))] e' ∧ Ext w0 w' ∧ ∀ (i : Nat) (h : i < x.length) (h2 : i < y.length), i < j → x[i] = y[i]) (x.length)
      ⟨0, by omega, Head.intro (AgreeOff.refl _ _) ⟨rfl, trivial⟩, H, fun i h h2 hi => by omega⟩ ?_
    clear H
    rintro k e w1 ⟨j, hjk, ⟨jk, rfl⟩, H, hok⟩
    refine WP.seq ?_
    refine WP.regionS ?_
    refine RL.r (mvI rfl) rfl ?_
    refine RL.r (mvL rfl) rfl ?_
    refine RL.r (len_sl rfl) rfl ?_
    refine RL.r (lss rfl rfl) rfl ?_
    refine RL.nil ?_
    refine WP.cond rfl (fun hc => ?_) (fun hc => ?_)
    · refine WP.skip ?_
      refine WP.seq ?_
      refine WP.block ?_
      refine WP.seq ?_
      refine WP.draw (by kernel_rfl) ?_
      refine QL.r (mvL rfl) rfl ?_
      refine QL.r (mvI rfl) rfl ?_
      have hj : j < x.length := by omega
      have hj2 : j < y.length := by omega
      obtain ⟨p, rfl⟩ := hx0.isAddr (by decide) hj
      obtain ⟨q, rfl⟩ := hy0.isAddr (by decide) hj2
      refine QL.r (ix rfl rfl rfl (by omega)) rfl ?_
      refine QL.m (ld_e0 rfl hx0 H rfl (by omega) rfl) rfl ?_
      refine QL.r (mvL rfl) rfl ?_
      refine QL.r (mvI rfl) rfl ?_
      refine QL.r (ix rfl rfl rfl (by omega)) rfl ?_
      refine QL.m (ld_e0 rfl hy0 H rfl (by omega) rfl) rfl ?_
      refine QL.r (sneq rfl rfl) rfl ?_
      refine QL.nil ?_; intro w2 hx; replace H := H.ext hx
      refine WP.cond rfl (fun hc => ?_) (fun hc => ?_)
      · refine WP.regionS ?_
        refine RL.r (asgB rfl) rfl ?_
        refine RL.nil ?_
        refine WP.ret ?_
        refine fin1_ret rfl ⟨congrArg Value.bool (bF (fun h => hc (by subst h; rfl))), H⟩
      · refine WP.skip ?_
        refine WP.region ?_
        refine RL.r (mvI rfl) rfl ?_
        refine RL.r (add rfl rfl (by omega)) rfl ?_
        refine RL.r (asgI rfl) rfl ?_
        refine RL.nil ?_
        refine ⟨k - 1, by omega, j + 1, by omega, Head.intro (by repeat (first | with_reducible exact AgreeOff.mix _ _ _ | refine AgreeOff.look rfl ?_ | refine AgreeOff.mixs rfl ?_)) ⟨rfl, trivial⟩, H, fun i h h2 hi => ?_⟩
        by_cases hij : i < j
        · exact hok i h h2 hij
        · obtain rfl : i = j := by omega
          exact Classical.not_not.1 hc
    · refine WP.exit ?_
      refine WP.regionS ?_
      refine RL.r (asgB rfl) rfl ?_
      refine RL.nil ?_
      refine WP.ret ?_
      refine fin1_ret rfl ⟨congrArg Value.bool (bT (List.ext_getElem (by omega) fun i h h2 => hok i h h2 (by omega))), H⟩
theorem lSeat (w0 : World) (nm : ByteArray) :
    Ct Try.prog 11 #[.string nm] w0 fun v w' => (∃ s : Seat, v = .agg (Lies.enc s).toArray ∧ s.st = sAt nm ∧ Sl w' s.ta s.topics) ∧ Ext w0 w' := by
  refine Ct.introC Try.func11 Try.ntmps11 rfl rfl (by decide) rfl ?_
  have H : Ext w0 w0 := Ext.refl w0
  refine WP.regionS ?_
  refine RL.alloc w0.heap.size H.size rfl rfl ?_
  intro w1 i2 hi2 hx hb2
  replace H := H.ext hx; clear hx
  refine RL.nil ?_
  refine WP.regionS ?_
  refine RL.r (mvS rfl) rfl ?_
  refine RL.buildSlice w0.heap.size H.size rfl rfl rfl rfl rfl ?_
  intro w2 i4 hi4 hx hb4
  replace H := H.ext hx; replace hb2 := hb2.ext hx; clear hx
  refine RL.r (bld rfl rfl) rfl ?_
  refine RL.r (bld rfl rfl) rfl ?_
  have hb2_0 := hb2
  refine RL.storeS rfl hb2 rfl rfl rfl rfl ?_
  intro w3 hu hb2
  replace H := H.box hu hb2.old
  refine RL.nil ?_
  refine WP.ret ?_
  refine finC_ret rfl hb2 ⟨⟨_, rfl, rfl⟩, ⟨⟨⟨nm, some ⟨i4, 0, none⟩, 1, [tS], 5, 0⟩, rfl, rfl, (show Sl _ _ [tS] from Box.sl1 (hb4.upd hu (fun e => box_nt hb4 hb2_0 (by decide) e)))⟩, H⟩⟩
theorem lTopic (w0 : World) :
    Ct Try.prog 34 #[] w0 fun v w' => (∃ i, v = .slice (some ⟨i, 0, none⟩) 1 1 ∧ Sl w' (some ⟨i, 0, none⟩) tp4) ∧ Ext w0 w' := by
  refine Ct.intro1 Try.func34 Try.ntmps34 rfl rfl (by decide) rfl ?_
  have H : Ext w0 w0 := Ext.refl w0
  refine WP.regionS ?_
  refine RL.r (asgL rfl) rfl ?_
  refine RL.nil ?_
  refine WP.regionS ?_
  refine RL.r (bld rfl rfl) rfl ?_
  refine RL.buildSlice w0.heap.size H.size rfl rfl rfl rfl rfl ?_
  intro w1 i2 hi2 hx hb2
  replace H := H.ext hx; clear hx
  refine RL.r (asgL rfl) rfl ?_
  refine RL.nil ?_
  refine WP.ret ?_
  refine fin1_ret rfl ⟨⟨i2, rfl, (show Sl _ _ [(⟨tS, 4⟩ : Topic)] from Box.sl1 hb2)⟩, H⟩
theorem gLoad_ok (w0 : World) (gen : Int) (robin : Bool) (a : Option Addr) (c0 : Nat) (l : List Seat) (hl : Sl w0 a l) (hts : ∀ x ∈ l, Sl w0 x.ta x.topics ∧ x.topics.length ≤ 100000) (h0 : loadE gen l = 0) :
    Ct Try.prog 23 #[.int .i64 gen, .bool robin, .slice a l.length c0] w0 fun v w' => (∃ i m, v = .tuple #[.pointer (some ⟨i, 0, none⟩), .int .i64 0] ∧ Tg w0.heap.size w' i m ⟨gen, robin, l.map Seat.st⟩) ∧ Ext w0 w' :=
  (gLoad w0 gen robin a c0 l hl hts).mono fun v w' ⟨h, hx⟩ => ⟨h.elim (fun h => h.2) (fun h => absurd h0 h.1), hx⟩
theorem gLoad_no (w0 : World) (gen : Int) (robin : Bool) (a : Option Addr) (c0 : Nat) (l : List Seat) (hl : Sl w0 a l) (hts : ∀ x ∈ l, Sl w0 x.ta x.topics ∧ x.topics.length ≤ 100000) {k : Int} (h0 : loadE gen l = k) (hk : k ≠ 0) :
    Ct Try.prog 23 #[.int .i64 gen, .bool robin, .slice a l.length c0] w0 fun v w' => v = .tuple #[.pointer none, .int .i64 k] ∧ Ext w0 w' :=
  (gLoad w0 gen robin a c0 l hl hts).mono fun v w' ⟨h, hx⟩ => ⟨h.elim (fun h => absurd h.1 (by rw [h0]; exact hk)) (fun h => by rw [h0] at h; exact h.2), hx⟩
theorem zl (w : World) : Sl w zSeat.ta zSeat.topics := rfl
theorem zSeat_st : zSeat.st = sE := rfl
theorem a1v : joinV g0 (sAt mS) true = 1 := (joinV_ok a1).trans rfl
theorem a3v : joinV G1 (sAt nS) true = 2 := (joinV_ok a3).trans rfl
theorem a5v : joinV G2 (sAt oS) false = 0 ∧ joinG G2 (sAt oS) false = G2 := by
  unfold joinV joinG
  rw [a5, if_neg (by decide), if_neg (by decide)]
  exact ⟨rfl, rfl⟩
theorem a6v (G : Gs) : joinV G sE true = 0 ∧ joinG G sE true = G := by
  unfold joinV joinG
  rw [a6, if_neg (by decide), if_neg (by decide)]
  exact ⟨rfl, rfl⟩
theorem seats0 (w0 : World) (B i m : Nat) (G : Gs) (hT : Tg B w0 i m G) (h0 : G.S = []) :
    Ct Try.prog 21 #[.pointer (some ⟨i, 0, none⟩)] w0 fun v w' => (∃ a c, v = .slice a 0 c) ∧ Ext w0 w' :=
  (gSeats w0 B i m G hT).mono fun v w' ⟨⟨a, c, L, h1, _, h2, _⟩, hx⟩ => ⟨⟨a, c, by
    have : L = [] := by rw [h0] at h2; exact List.map_eq_nil_iff.1 h2
    subst this
    exact h1⟩, hx⟩
theorem own_len {L : List Seat} {w : World} {B : Nat} {G : Gs} (h : L.map Seat.st = G.S) (ok : okG G) (ho : Owns B w L) : ∀ x ∈ L, Sl w x.ta x.topics ∧ x.topics.length ≤ 100000 := fun x hx =>
  ⟨(ho x hx).sl, Nat.le_trans (topics_le ok (s := x.st) (by rw [← h]; exact List.mem_map.2 ⟨x, hx, rfl⟩)) (by decide)⟩
set_option maxRecDepth 20000 in
set_option maxHeartbeats 1600000 in
theorem lFixed (w0 : World) :
    Ct Try.prog 14 #[] w0 fun v w' => v = .bool true ∧ Ext w0 w' := by
  refine Ct.intro1 Try.func14 Try.ntmps14 rfl rfl (by decide) rfl ?_
  have H : Ext w0 w0 := Ext.refl w0
  refine WP.regionS ?_
  refine RL.r (asgB rfl) rfl ?_
  refine RL.nil ?_
  refine WP.regionS ?_
  -- call stagecoach/group.New 
  refine RL.call (gNew _) rfl rfl ?_
  rintro v w1 ⟨⟨i, m, rfl, hT⟩, hx⟩
  replace H := H.ext hx
  refine RL.r (asgP rfl) rfl ?_
  refine RL.nil ?_
  refine WP.seq ?_
  refine WP.regionS ?_
  refine RL.r (mvP rfl) rfl ?_
  refine RL.r (peqn rfl rfl) rfl ?_
  refine RL.nil ?_
  refine WP.cond rfl (fun hc => ?_) (fun hc => ?_)
  · refine WP.regionS ?_
    refine RL.r (asgB rfl) rfl ?_
    refine RL.nil ?_
    refine WP.ret ?_
    refine fin1_ret rfl ⟨absurd hc (by simp), H⟩
  · refine WP.skip ?_
    refine WP.regionS ?_
    refine RL.r (mvP rfl) rfl ?_
    -- call stagecoach/stagecoachlaw11.seat (const (string {data:#[109]}))
    refine RL.call (lSeat _ _) rfl rfl ?_
    rintro v w2 ⟨⟨s, rfl, hss, hl⟩, hx⟩
    replace H := H.ext hx; replace hT := hT.ext hx
    -- call (*stagecoach/group.Group).Join (tmp 27) (tmp 28) (const (bool true))
    refine RL.call (by have h := gJoin _ _ i m g0 hT s true hl (by rw [show s.topics = [tS] from congrArg St.topics hss]; decide); rw [hss, a1v, a1] at h; exact h) rfl rfl ?_
    rintro _ w3 ⟨⟨rfl, hT2⟩, hx⟩
    replace H := Ext.upd H hx (xg_old hT (Nat.le_refl _))
    rw [a2] at hT2
    replace hT := hT2; clear hT2
    refine RL.r (mvU rfl) rfl ?_
    refine RL.r (ex0 rfl) rfl ?_
    refine RL.r (ex1 rfl) rfl ?_
    refine RL.r (asgI rfl) rfl ?_
    refine RL.r (asgI rfl) rfl ?_
    refine RL.nil ?_
    refine WP.regionS ?_
    refine RL.r (mvP rfl) rfl ?_
    -- call stagecoach/stagecoachlaw11.seat (const (string {data:#[110]}))
    refine RL.call (lSeat _ _) rfl rfl ?_
    rintro v w4 ⟨⟨s, rfl, hss, hl⟩, hx⟩
    replace H := H.ext hx; replace hT := hT.ext hx
    -- call (*stagecoach/group.Group).Join (tmp 33) (tmp 34) (const (bool true))
    refine RL.call (by have h := gJoin _ _ i m G1 hT s true hl (by rw [show s.topics = [tS] from congrArg St.topics hss]; decide); rw [hss, a3v, a3] at h; exact h) rfl rfl ?_
    rintro _ w5 ⟨⟨rfl, hT2⟩, hx⟩
    replace H := Ext.upd H hx (xg_old hT (Nat.le_refl _))
    rw [a4] at hT2
    replace hT := hT2; clear hT2
    refine RL.r (mvU rfl) rfl ?_
    refine RL.r (ex0 rfl) rfl ?_
    refine RL.r (ex1 rfl) rfl ?_
    refine RL.r (asgI rfl) rfl ?_
    refine RL.r (asgI rfl) rfl ?_
    refine RL.nil ?_
    refine WP.regionS ?_
    refine RL.r (mvP rfl) rfl ?_
    -- call stagecoach/stagecoachlaw11.seat (const (string {data:#[111]}))
    refine RL.call (lSeat _ _) rfl rfl ?_
    rintro v w6 ⟨⟨s, rfl, hss, hl⟩, hx⟩
    replace H := H.ext hx; replace hT := hT.ext hx
    -- call (*stagecoach/group.Group).Join (tmp 39) (tmp 40) (const (bool false))
    refine RL.call (by have h := gJoin _ _ i m G2 hT s false hl (by rw [show s.topics = [tS] from congrArg St.topics hss]; decide); rw [hss, a5v.1, a5] at h; exact h) rfl rfl ?_
    rintro _ w7 ⟨⟨rfl, hT2⟩, hx⟩
    replace H := Ext.upd H hx (xg_old hT (Nat.le_refl _))
    rw [a5v.2] at hT2
    replace hT := hT2; clear hT2
    refine RL.r (mvU rfl) rfl ?_
    refine RL.r (ex0 rfl) rfl ?_
    refine RL.r (ex1 rfl) rfl ?_
    refine RL.r (asgI rfl) rfl ?_
    refine RL.r (asgI rfl) rfl ?_
    refine RL.nil ?_
    refine WP.regionS ?_
    refine RL.r (mvP rfl) rfl ?_
    refine RL.r (bld rfl rfl) rfl ?_
    -- call (*stagecoach/group.Group).Join (tmp 45) (tmp 46) (const (bool true))
    refine RL.call (by have h := gJoin _ _ i m G2 hT zSeat true (zl _) (by decide); rw [zSeat_st, (a6v G2).1, a6] at h; exact h) rfl rfl ?_
    rintro _ w8 ⟨⟨rfl, hT2⟩, hx⟩
    replace H := Ext.upd H hx (xg_old hT (Nat.le_refl _))
    rw [(a6v G2).2] at hT2
    replace hT := hT2; clear hT2
    refine RL.r (mvU rfl) rfl ?_
    refine RL.r (ex0 rfl) rfl ?_
    refine RL.r (ex1 rfl) rfl ?_
    refine RL.r (asgI rfl) rfl ?_
    refine RL.r (asgI rfl) rfl ?_
    refine RL.nil ?_
    refine WP.regionS ?_
    refine RL.r (mvP rfl) rfl ?_
    -- call (*stagecoach/group.Group).Beat (tmp 50) (const (string {data:#[109]})) (const (int i64 1)) (const (int i64 3))
    refine RL.call (by have h := gBeat _ _ i m G2 hT mS 1 3; rw [a7] at h; exact h) rfl rfl ?_
    rintro _ w9 ⟨⟨rfl, hT2⟩, hx⟩
    replace H := Ext.upd H hx (xg_old hT (Nat.le_refl _))
    rw [a8] at hT2
    replace hT := hT2; clear hT2
    refine RL.r (mvP rfl) rfl ?_
    -- call (*stagecoach/group.Group).Beat (tmp 52) (const (string {data:#[109]})) (const (int i64 2)) (const (int i64 3))
    refine RL.call (by have h := gBeat _ _ i m G2 hT mS 2 3; rw [a9] at h; exact h) rfl rfl ?_
    rintro _ w10 ⟨⟨rfl, hT2⟩, hx⟩
    replace H := Ext.upd H hx (xg_old hT (Nat.le_refl _))
    rw [a10] at hT2
    replace hT := hT2; clear hT2
    refine RL.r (mvP rfl) rfl ?_
    -- call (*stagecoach/group.Group).Beat (tmp 54) (const (string {data:#[120]})) (const (int i64 2)) (const (int i64 3))
    refine RL.call (by have h := gBeat _ _ i m G3 hT xS 2 3; rw [a11] at h; exact h) rfl rfl ?_
    rintro _ w11 ⟨⟨rfl, hT2⟩, hx⟩
    replace H := Ext.upd H hx (xg_old hT (Nat.le_refl _))
    rw [a12] at hT2
    replace hT := hT2; clear hT2
    refine RL.r (asgI rfl) rfl ?_
    refine RL.r (asgI rfl) rfl ?_
    refine RL.r (asgI rfl) rfl ?_
    refine RL.nil ?_
    refine WP.regionS ?_
    refine RL.r (mvP rfl) rfl ?_
    -- call stagecoach/stagecoachlaw11.topic 
    refine RL.call (lTopic _) rfl rfl ?_
    rintro v w12 ⟨⟨i58, rfl, htp⟩, hx⟩
    replace H := H.ext hx; replace hT := hT.ext hx
    -- call (*stagecoach/group.Group).Assigned (tmp 57) (const (string {data:#[110]})) (const (int i64 2)) (tmp 58)
    refine RL.call (by have h := gAssigned _ _ i m G3 hT nS 2 (some ⟨i58, 0, none⟩) 1 tp4 htp; rw [a14, a16] at h; exact h) rfl rfl ?_
    rintro v w13 ⟨⟨a60, c60, rfl, hA⟩, hx⟩
    replace H := H.ext hx; replace hT := hT.ext hx
    refine RL.r (mvU rfl) rfl ?_
    refine RL.r (ex0 rfl) rfl ?_
    refine RL.r (ex1 rfl) rfl ?_
    refine RL.r (asgL rfl) rfl ?_
    refine RL.r (asgI rfl) rfl ?_
    refine RL.nil ?_
    refine WP.regionS ?_
    refine RL.r (mvP rfl) rfl ?_
    -- call (*stagecoach/group.Group).Expire (tmp 62) (const (int i64 6))
    refine RL.call (by have h := gExpire _ _ i m G3 hT 6; rw [a17] at h; exact h) rfl rfl ?_
    rintro v w14 ⟨⟨⟨a63, c63, rfl, hE⟩, hT2⟩, hx⟩
    replace H := Ext.upd H hx (xg_old hT (Nat.le_refl _)); replace hA := own_xg hA hT (by decide) hx
    rw [a18] at hT2
    replace hT := hT2; clear hT2
    refine RL.r (asgL rfl) rfl ?_
    refine RL.nil ?_
    refine WP.regionS ?_
    refine RL.r (mvP rfl) rfl ?_
    -- call (*stagecoach/group.Group).Gen (tmp 65)
    refine RL.call ((gGen _ _ i m G4 hT).mono fun v w' ⟨h, hx⟩ => (⟨h, hx⟩ : v = Value.tuple #[.int .i64 3, .bool (decide ((0 : Nat) = 0))] ∧ Ext _ w')) rfl rfl ?_
    rintro _ w15 ⟨rfl, hx⟩
    replace H := H.ext hx; replace hT := hT.ext hx; replace hA := hA.ext hx; replace hE := hE.ext hx
    refine RL.r (mvU rfl) rfl ?_
    refine RL.r (ex0 rfl) rfl ?_
    refine RL.r (ex1 rfl) rfl ?_
    refine RL.r (asgI rfl) rfl ?_
    refine RL.r (asgB rfl) rfl ?_
    refine RL.nil ?_
    refine WP.regionS ?_
    refine RL.r (mvI rfl) rfl ?_
    refine RL.r (mvB rfl) rfl ?_
    refine RL.r (mvP rfl) rfl ?_
    -- call (*stagecoach/group.Group).Seats (tmp 72)
    refine RL.call (gSeats _ _ i m G4 hT) rfl rfl ?_
    rintro v w16 ⟨⟨a73, c73, L, rfl, hL, hLs, hLo, _⟩, hx⟩
    replace H := H.ext hx; replace hT := hT.ext hx; replace hA := hA.ext hx; replace hE := hE.ext hx
    -- call stagecoach/group.Load (tmp 70) (tmp 71) (tmp 73)
    refine RL.call (gLoad_ok _ 3 _ a73 c73 L hL.sl (own_len hLs hT.ok hLo) (a19 hLs)) rfl rfl ?_
    rintro v w17 ⟨⟨i9, m9, rfl, _⟩, hx⟩
    replace H := H.ext hx; replace hT := hT.ext hx; replace hA := hA.ext hx; replace hE := hE.ext hx
    refine RL.r (mvU rfl) rfl ?_
    refine RL.r (ex0 rfl) rfl ?_
    refine RL.r (ex1 rfl) rfl ?_
    refine RL.r (asgP rfl) rfl ?_
    refine RL.r (asgI rfl) rfl ?_
    refine RL.nil ?_
    refine WP.regionS ?_
    -- call stagecoach/group.Load (const (int i64 -1)) (const (bool false)) (const (slice none 0 0))
    refine RL.call (gLoad_no _ (-1) false none 0 [] (Sl.nil _) (fun x hx => by cases hx) a20 (by decide)) rfl rfl ?_
    rintro _ w18 ⟨rfl, hx⟩
    replace H := H.ext hx; replace hT := hT.ext hx; replace hA := hA.ext hx; replace hE := hE.ext hx
    refine RL.r (mvU rfl) rfl ?_
    refine RL.r (ex0 rfl) rfl ?_
    refine RL.r (ex1 rfl) rfl ?_
    refine RL.r (asgP rfl) rfl ?_
    refine RL.r (asgI rfl) rfl ?_
    refine RL.nil ?_
    refine WP.regionS ?_
    refine RL.r (mvP rfl) rfl ?_
    -- call (*stagecoach/group.Group).Leave (tmp 81) (const (string {data:#[109]})) (const (int i64 3))
    refine RL.call (by have h := gLeave _ _ i m G4 hT mS 3; rw [a21] at h; exact h) rfl rfl ?_
    rintro _ w19 ⟨⟨rfl, hT2⟩, hx⟩
    replace H := Ext.upd H hx (xg_old hT (Nat.le_refl _)); replace hA := own_xg hA hT (by decide) hx; replace hE := own_xg hE hT (by decide) hx
    rw [a22] at hT2
    replace hT := hT2; clear hT2
    refine RL.r (asgI rfl) rfl ?_
    refine RL.nil ?_
    refine WP.regionS ?_
    refine RL.r (mvI rfl) rfl ?_
    refine RL.r (eql rfl rfl) rfl ?_
    refine RL.mvT rfl (by first | rfl | exact Option.some_ne_none _ | decide) rfl ?_
    refine RL.yes rfl rfl rfl ?_
    refine RL.r (mvI rfl) rfl ?_
    refine RL.yes rfl rfl rfl ?_
    refine RL.r (eql rfl rfl) rfl ?_
    refine RL.r (pickT rfl) rfl ?_
    refine RL.mvT rfl (by first | rfl | exact Option.some_ne_none _ | decide) rfl ?_
    refine RL.yes rfl rfl rfl ?_
    refine RL.r (mvI rfl) rfl ?_
    refine RL.yes rfl rfl rfl ?_
    refine RL.r (eql rfl rfl) rfl ?_
    refine RL.r (pickT rfl) rfl ?_
    refine RL.mvT rfl (by first | rfl | exact Option.some_ne_none _ | decide) rfl ?_
    refine RL.yes rfl rfl rfl ?_
    refine RL.r (mvI rfl) rfl ?_
    refine RL.yes rfl rfl rfl ?_
    refine RL.r (eql rfl rfl) rfl ?_
    refine RL.r (pickT rfl) rfl ?_
    refine RL.mvT rfl (by first | rfl | exact Option.some_ne_none _ | decide) rfl ?_
    refine RL.yes rfl rfl rfl ?_
    refine RL.r (mvI rfl) rfl ?_
    refine RL.yes rfl rfl rfl ?_
    refine RL.r (eql rfl rfl) rfl ?_
    refine RL.r (pickT rfl) rfl ?_
    refine RL.mvT rfl (by first | rfl | exact Option.some_ne_none _ | decide) rfl ?_
    refine RL.yes rfl rfl rfl ?_
    refine RL.r (mvI rfl) rfl ?_
    refine RL.yes rfl rfl rfl ?_
    refine RL.r (eql rfl rfl) rfl ?_
    refine RL.r (pickT rfl) rfl ?_
    refine RL.mvT rfl (by first | rfl | exact Option.some_ne_none _ | decide) rfl ?_
    refine RL.yes rfl rfl rfl ?_
    refine RL.r (mvI rfl) rfl ?_
    refine RL.yes rfl rfl rfl ?_
    refine RL.r (eql rfl rfl) rfl ?_
    refine RL.r (pickT rfl) rfl ?_
    refine RL.mvT rfl (by first | rfl | exact Option.some_ne_none _ | decide) rfl ?_
    refine RL.yes rfl rfl rfl ?_
    refine RL.r (mvI rfl) rfl ?_
    refine RL.yes rfl rfl rfl ?_
    refine RL.r (eql rfl rfl) rfl ?_
    refine RL.r (pickT rfl) rfl ?_
    refine RL.mvT rfl (by first | rfl | exact Option.some_ne_none _ | decide) rfl ?_
    refine RL.yes rfl rfl rfl ?_
    refine RL.r (mvI rfl) rfl ?_
    refine RL.yes rfl rfl rfl ?_
    refine RL.r (eql rfl rfl) rfl ?_
    refine RL.r (pickT rfl) rfl ?_
    refine RL.mvT rfl (by first | rfl | exact Option.some_ne_none _ | decide) rfl ?_
    refine RL.yes rfl rfl rfl ?_
    refine RL.r (mvL rfl) rfl ?_
    refine RL.yes rfl rfl rfl ?_
    refine RL.r (bld rfl rfl) rfl ?_
    refine RL.yes rfl rfl rfl ?_
    refine RL.r (bld rfl rfl) rfl ?_
    refine RL.yes rfl rfl rfl ?_
    refine RL.buildSlice w0.heap.size H.size rfl rfl rfl rfl rfl ?_
    intro w20 i121 hi121 hx hb121
    replace H := H.ext hx; replace hT := hT.ext hx; replace hA := hA.ext hx; replace hE := hE.ext hx; clear hx
    refine RL.yes rfl rfl rfl ?_
    -- call stagecoach/stagecoachref04.Parts (tmp 118) (tmp 121)
    refine RL.call (rParts _ _ _ _ _ [⟨tS, 1⟩, ⟨tS, 3⟩] [⟨tS, 1⟩, ⟨tS, 3⟩] hA.sl (Box.sl (l := [(⟨tS, 1⟩ : Part), ⟨tS, 3⟩]) hb121) (by decide)) rfl rfl ?_
    rintro _ w21 ⟨rfl, hx⟩
    replace H := H.ext hx; replace hT := hT.ext hx; replace hA := hA.ext hx; replace hE := hE.ext hx
    refine RL.r (pickT rfl) rfl ?_
    refine RL.mvT rfl (by first | rfl | exact Option.some_ne_none _ | decide) rfl ?_
    refine RL.yes rfl rfl rfl ?_
    refine RL.r (mvI rfl) rfl ?_
    refine RL.yes rfl rfl rfl ?_
    refine RL.r (eql rfl rfl) rfl ?_
    refine RL.r (pickT rfl) rfl ?_
    refine RL.mvT rfl (by first | rfl | exact Option.some_ne_none _ | decide) rfl ?_
    refine RL.yes rfl rfl rfl ?_
    refine RL.r (mvL rfl) rfl ?_
    refine RL.yes rfl rfl rfl ?_
    refine RL.buildSlice w0.heap.size H.size rfl rfl rfl rfl rfl ?_
    intro w22 i130 hi130 hx hb130
    replace H := H.ext hx; replace hT := hT.ext hx; replace hA := hA.ext hx; replace hE := hE.ext hx; clear hx
    refine RL.yes rfl rfl rfl ?_
    -- call stagecoach/stagecoachref04.Texts (tmp 129) (tmp 130)
    refine RL.call (rTexts _ _ _ _ _ [nS] [nS] hE.sl (show Sl _ _ [nS] from Box.sl1 hb130) (by decide)) rfl rfl ?_
    rintro _ w23 ⟨rfl, hx⟩
    replace H := H.ext hx; replace hT := hT.ext hx; replace hA := hA.ext hx; replace hE := hE.ext hx
    refine RL.r (pickT rfl) rfl ?_
    refine RL.mvT rfl (by first | rfl | exact Option.some_ne_none _ | decide) rfl ?_
    refine RL.yes rfl rfl rfl ?_
    refine RL.r (mvI rfl) rfl ?_
    refine RL.yes rfl rfl rfl ?_
    refine RL.r (eql rfl rfl) rfl ?_
    refine RL.r (pickT rfl) rfl ?_
    refine RL.mvT rfl (by first | rfl | exact Option.some_ne_none _ | decide) rfl ?_
    refine RL.yes rfl rfl rfl ?_
    refine RL.r (mvB rfl) rfl ?_
    refine RL.r (pickT rfl) rfl ?_
    refine RL.mvT rfl (by first | rfl | exact Option.some_ne_none _ | decide) rfl ?_
    refine RL.yes rfl rfl rfl ?_
    refine RL.r (mvP rfl) rfl ?_
    refine RL.yes rfl rfl rfl ?_
    refine RL.r (pneqn rfl rfl) rfl ?_
    refine RL.r (pickT rfl) rfl ?_
    refine RL.mvT rfl (by first | rfl | exact Option.some_ne_none _ | decide) rfl ?_
    refine RL.yes rfl rfl rfl ?_
    refine RL.r (mvI rfl) rfl ?_
    refine RL.yes rfl rfl rfl ?_
    refine RL.r (eql rfl rfl) rfl ?_
    refine RL.r (pickT rfl) rfl ?_
    refine RL.mvT rfl (by first | rfl | exact Option.some_ne_none _ | decide) rfl ?_
    refine RL.yes rfl rfl rfl ?_
    refine RL.r (mvI rfl) rfl ?_
    refine RL.yes rfl rfl rfl ?_
    refine RL.r (eql rfl rfl) rfl ?_
    refine RL.r (pickT rfl) rfl ?_
    refine RL.mvT rfl (by first | rfl | exact Option.some_ne_none _ | decide) rfl ?_
    refine RL.yes rfl rfl rfl ?_
    refine RL.r (mvI rfl) rfl ?_
    refine RL.yes rfl rfl rfl ?_
    refine RL.r (eql rfl rfl) rfl ?_
    refine RL.r (pickT rfl) rfl ?_
    refine RL.mvT rfl (by first | rfl | exact Option.some_ne_none _ | decide) rfl ?_
    refine RL.yes rfl rfl rfl ?_
    refine RL.r (mvP rfl) rfl ?_
    refine RL.yes rfl rfl rfl ?_
    -- call (*stagecoach/group.Group).Seats (tmp 157)
    refine RL.call (seats0 _ _ i m G5 hT rfl) rfl rfl ?_
    rintro v w24 ⟨⟨a150, c150, rfl⟩, hx⟩
    replace H := H.ext hx; replace hT := hT.ext hx; replace hA := hA.ext hx; replace hE := hE.ext hx
    refine RL.yes rfl rfl rfl ?_
    refine RL.r (len_sl rfl) rfl ?_
    refine RL.yes rfl rfl rfl ?_
    refine RL.r (eql rfl rfl) rfl ?_
    refine RL.r (pickT rfl) rfl ?_
    refine RL.r (asgB rfl) rfl ?_
    refine RL.nil ?_
    refine WP.ret ?_
    refine fin1_ret rfl ⟨rfl, H⟩
theorem lFixedD (w0 : World) : Ct Try.prog 14 #[] w0 fun v w' => v = .bool (decide ((0 : Nat) = 0)) ∧ Ext w0 w' :=
  (lFixed w0).mono fun v w' ⟨h, hx⟩ => ⟨by rw [h]; rfl, hx⟩
end Go.Proofs.Ytlkpgeopcdhgjaa
