/-
  GroupDoes: the walk.
-/
import Derived.Test.YtlkpgeopcdhgjaaRefB
import Derived.Test.YtlkpgeopcdhgjaaOpen11
set_option linter.unusedVariables false
namespace Go.Proofs.Ytlkpgeopcdhgjaa
open Go Go.Eng Go.RowKit
theorem tr_new {B i : Nat} {w : World} (h : Box B w i 42 [.int .i64 0, .bool false, .slice none 0 0]) : Tr B w i none g0 := ⟨⟨0, [], h, Own.nil _ _ _, rfl, Owns.nil _ _⟩, okG0⟩
theorem may_other : ByteArray.size ⟨#[111, 116, 104, 101, 114]⟩ ≤ 40 := by decide
/-- seats whose topics may have been written to -/
def OwnsL (B : Nat) (w : World) (L : List Seat) : Prop := ∀ (n : Nat) (h : n < L.length), ∃ T : List ByteArray, T.length = L[n].topics.length ∧ Own B w 9 L[n].ta L[n].tc T
theorem OwnsL.ext {B : Nat} {w w' : World} {L : List Seat} (h : OwnsL B w L) (k : Ext w w') : OwnsL B w' L := fun n hn => let ⟨T, h1, h2⟩ := h n hn; ⟨T, h1, h2.ext k⟩
theorem OwnsL.of {B : Nat} {w : World} {L : List Seat} (h : Owns B w L) : OwnsL B w L := fun n hn => ⟨L[n].topics, rfl, h _ (List.getElem_mem hn)⟩
theorem OwnsL.put {B : Nat} {w w' : World} {L : List Seat} (h : OwnsL B w L) (ha : Apt L) {j : Nat} (hj : j < L.length) {T : List ByteArray} (hT : T.length = L[j].topics.length) (ho : Own B w' 9 L[j].ta L[j].tc T) (k : Upd (inBlock L[j].ta) w w') : OwnsL B w' L := fun n hn => by
  by_cases e : n = j
  · subst e; exact ⟨T, hT, ho⟩
  · obtain ⟨T2, h1, h2⟩ := h n hn
    refine ⟨T2, h1, h2.upd k fun y hy hy2 => ?_⟩
    rcases Nat.lt_or_gt_of_ne e with hl | hl
    · exact List.pairwise_iff_getElem.1 ha n j hn hj hl y hy hy2
    · exact List.pairwise_iff_getElem.1 ha j n hj hn hl y hy2 hy
theorem hdrS {s : Seat} {q : Addr} (hq : s.ta = some q) : (Lies.enc s)[1]? = some (.slice (some q) s.topics.length s.tc) := by
  show some (Value.slice s.ta _ _) = _
  rw [hq]
set_option maxRecDepth 20000 in
set_option maxHeartbeats 1600000 in
theorem lDoes (w0 : World) (a : Option Addr) (c : Nat) (l : List GOp) (hl : SlI w0 a l) (hin : ∀ x ∈ l, inSeat w0 x.s) :
    Ct Try.prog 4 #[.slice a l.length c] w0 fun v w' => v = .bool true ∧ Ext w0 w' := by
  refine Ct.intro1 Try.func4 Try.ntmps4 rfl rfl (by decide) rfl ?_
  have H : Ext w0 w0 := Ext.refl w0
  refine WP.regionS ?_
  refine RL.r (asgB rfl) rfl ?_
  refine RL.nil ?_
  refine WP.regionS ?_
  -- call stagecoach/group.New 
  refine RL.call (gNew _) rfl rfl ?_
  rintro v w1 ⟨⟨i, m, rfl, hT⟩, hx⟩
  replace H := H.ext hx
  refine RL.r (bld rfl rfl) rfl ?_
  refine RL.boxS w0.heap.size H.size rfl rfl ?_
  intro w2 i13 hi13 hx hb13
  replace H := H.ext hx; replace hT := hT.ext hx; clear hx
  have hR := tr_new hb13
  refine RL.r (asgP rfl) rfl ?_
  refine RL.r (asgP rfl) rfl ?_
  refine RL.nil ?_
  refine WP.seq ?_
  refine WP.regionS ?_
  refine RL.r (mvP rfl) rfl ?_
  refine RL.r (peqn rfl rfl) rfl ?_
  refine RL.nil ?_
  refine WP.cond rfl (fun hc => ?_) (fun hc => ?_)
  · refine WP.regionS ?_
    refine RL.r (asgB rfl) rfl ?_
    refine RL.nil ?_
    refine WP.ret ?_
    refine fin1_ret rfl ⟨absurd hc (by simp), H⟩
  · refine WP.skip ?_
    refine WP.seq ?_
    refine WP.regionS ?_
    refine RL.r (asgI rfl) rfl ?_
    refine RL.nil ?_
    refine WP.block ?_
    refine WP.loop (fun k e' w' => ∃ j : Nat, ∃ (G : Gs) (gi gm : Nat) (ra : Option Addr),  j + k = min l.length 60 ∧ Head [2, 3, 5, 6, 7, 8, 9, 10, 16, 17, 18, 19, 20, 21, 22, 23, 24, 25, 26, 27, 28, 29, 30, 31, 32, 33, 34, 35, 36, 37, 38, 39, 40, 41, 42, 43, 44, 45, 46, 47, 48, 49, 50, 51, 52, 53, 54, 55, 56, 57, 58, 59, 60, 61, 62, 63, 64, 65, 66, 67, 68, 69, 70, 71, 72, 73, 74, 75, 76, 77, 78, 79, 80, 81, 82, 83, 84, 85, 86, 87, 88, 89, 90, 91, 92, 93, 94, 95, 96, 97, 98] _ [(3, .pointer (some ⟨gi, 0, none⟩)), (5, .int .i64 (j : Int))] e' ∧ Ext w0 w' ∧ Tg w0.heap.size w' gi gm G ∧ Tr w0.heap.size w' i13 ra G) (min l.length 60)
      ⟨0, g0, i, m, none, by omega, Head.intro (AgreeOff.refl _ _) ⟨rfl, rfl, trivial⟩, H, hT, hR⟩ ?_
    clear H hT hR
    rintro k e w3 ⟨j, G, gi, gm, ra, hjk, ⟨jk, rfl⟩, H, hT, hR⟩
    refine WP.seq ?_
    refine WP.seq (WP.quiet ?_)
    refine QL.r (mvI rfl) rfl ?_
    refine QL.r (mvL rfl) rfl ?_
    refine QL.r (len_sl rfl) rfl ?_
    refine QL.r (lss rfl rfl) rfl ?_
    refine QL.r (mvB rfl) rfl ?_
    refine QL.gg (gwT rfl rfl) (fun hg => (mvI rfl).does _) rfl ?_
    refine QL.gg (gwT rfl rfl) (fun hg => (lss (gs hg rfl) rfl).does _) rfl ?_
    refine QL.r (pickAnd rfl (fun hn => gs hn rfl)) rfl ?_
    refine QL.nil ?_; intro w4 hx; replace H := H.ext hx; replace hT := hT.ext hx; replace hR := hR.ext hx
    refine WP.cond rfl (fun hc => ?_) (fun hc => ?_)
    · refine WP.skip ?_
      refine WP.seq ?_
      refine WP.block ?_
      refine WP.regionS ?_
      refine RL.r (mvL rfl) rfl ?_
      refine RL.r (mvI rfl) rfl ?_
      have hj : j < l.length := by omega
      have hinj := hin _ (List.getElem_mem hj)
      have hl := hl (List.ne_nil_of_length_pos (by omega))
      obtain ⟨p, rfl⟩ := hl.isAddr (by decide) hj
      refine RL.r (ix rfl rfl rfl hj) rfl ?_
      refine RL.m (ldS_el rfl hl H rfl rfl hj) rfl ?_
      refine RL.alloc w0.heap.size H.size rfl rfl ?_
      intro w5 i6 hi6 hx hb6
      refine RL.storeS rfl hb6 rfl rfl rfl rfl ?_
      intro w6 hu hb6
      replace hx := hx.box hu (Nat.le_of_eq hi6.symm)
      replace H := H.ext hx; replace hT := hT.ext hx; replace hR := hR.ext hx; clear hx hu
      refine RL.nil ?_
      refine WP.seq ?_
      refine WP.regionS ?_
      refine RL.r (fa_box rfl) rfl ?_
      refine RL.m (ld_box rfl hb6 rfl) rfl ?_
      refine RL.r (eql rfl rfl) rfl ?_
      refine RL.nil ?_
      refine WP.cut (α := Nat × Nat) [2, 3, 7, 33, 34, 35, 36, 37, 38, 39, 40, 41, 42, 43, 44] (fun x => [(3, .pointer (some ⟨x.1, 0, none⟩))]) (fun x w' => Ext w0 w' ∧ Box w0.heap.size w' i6 44 (Lies.enc l[j]) ∧ Tg w0.heap.size w' x.1 x.2 G ∧ Tr w0.heap.size w' i13 ra G) ?_ ?_
      · refine WP.cond rfl (fun hc => ?_) (fun hc => ?_)
        · refine WP.regionS ?_
          refine RL.r (mvP rfl) rfl ?_
          refine RL.r (asgP rfl) rfl ?_
          refine RL.nil ?_
          refine WP.regionS ?_
          refine RL.r (mvP rfl) rfl ?_
          -- call (*stagecoach/group.Group).Copy (tmp 34)
          have hs6 := H.size
          have hgl := hT.box.lt
          have hgm := hT.lt
          refine RL.call (gCopy _ _ gi gm G hT) rfl rfl ?_
          rintro v w7 ⟨⟨gi2, gm2, rfl, hC⟩, hx⟩
          replace H := H.ext hx; replace hb6 := hb6.ext hx; replace hT := hT.ext hx; replace hR := hR.ext hx
          have hci := hC.box.old
          have hcm := hC.old
          replace hC := hC.mono hs6
          refine RL.r (asgP rfl) rfl ?_
          refine RL.nil ?_
          refine WP.seq ?_
          refine WP.cutN (α := Unit) [36, 37, 38, 39, 40] (fun x => []) (fun x w' => Ext w0 w' ∧ Box w0.heap.size w' i6 44 (Lies.enc l[j]) ∧ (∃ G9, Tg w0.heap.size w' gi gm G9) ∧ Tg w0.heap.size w' gi2 gm2 G ∧ Tr w0.heap.size w' i13 ra G) ?_ ?_
          · refine WP.any ?_
            intro w8 hx; replace H := H.ext hx; replace hb6 := hb6.ext hx; replace hT := hT.ext hx; replace hR := hR.ext hx; replace hC := hC.ext hx
            refine AL.p 0 (by kernel_rfl) rfl (mvP rfl) rfl ?_
            refine AL.p 2 (by kernel_rfl) rfl (fa_box rfl) rfl ?_
            refine AL.all (rs := [1, 3]) (by kernel_rfl) rfl ?_
            rintro i hi; simp only [List.mem_cons, List.not_mem_nil, or_false] at hi; rcases hi with rfl | rfl
            · refine ⟨_, rfl, ?_⟩
              -- call stagecoach/stagecoachlaw11.seat (const (string {data:#[111, 116, 104, 101, 114]}))
              refine RL.call (lSeat _ _) rfl rfl ?_
              rintro v w9 ⟨⟨s, rfl, hss, hsl⟩, hx⟩
              replace H := H.ext hx; replace hb6 := hb6.ext hx; replace hT := hT.ext hx; replace hR := hR.ext hx; replace hC := hC.ext hx
              refine RL.nil ?_
              refine AL.m 3 (by kernel_rfl) rfl (ld_box rfl hb6 rfl) rfl ?_
              refine AL.o 4 (by kernel_rfl) rfl ?_
              -- call (*stagecoach/group.Group).Join (tmp 36) (tmp 37) (tmp 39)
              refine RL.call (gJoin _ _ gi gm G hT s l[j].rb hsl (by rw [show s.topics = [tS] from congrArg St.topics hss]; decide)) rfl rfl ?_
              rintro _ w10 ⟨⟨rfl, hT2⟩, hx⟩
              replace H := Ext.upd H hx (xg_old hT (Nat.le_refl _)); replace hb6 := box_xg hb6 hT (by decide) hx; replace hR := hR.xg hT hx; replace hC := hC.xg hT (by omega) (by omega) hx
              replace hT := hT2; clear hT2
              refine RL.nil ?_
              refine AL.nil (by kernel_rfl) ?_
              refine ⟨(), Head.intro (by repeat (first | with_reducible exact AgreeOff.refl _ _ | with_reducible exact AgreeOff.mix _ _ _ | refine AgreeOff.look rfl ?_ | refine AgreeOff.mixs rfl ?_)) trivial, H, hb6, ⟨_, hT⟩, hC, hR⟩
            · refine ⟨_, rfl, ?_⟩
              refine RL.m (ld_box rfl hb6 rfl) rfl ?_
              refine RL.nil ?_
              refine AL.o 1 (by kernel_rfl) rfl ?_
              -- call stagecoach/stagecoachlaw11.seat (const (string {data:#[111, 116, 104, 101, 114]}))
              refine RL.call (lSeat _ _) rfl rfl ?_
              rintro v w11 ⟨⟨s, rfl, hss, hsl⟩, hx⟩
              replace H := H.ext hx; replace hb6 := hb6.ext hx; replace hT := hT.ext hx; replace hR := hR.ext hx; replace hC := hC.ext hx
              refine RL.nil ?_
              refine AL.o 4 (by kernel_rfl) rfl ?_
              -- call (*stagecoach/group.Group).Join (tmp 36) (tmp 37) (tmp 39)
              refine RL.call (gJoin _ _ gi gm G hT s l[j].rb hsl (by rw [show s.topics = [tS] from congrArg St.topics hss]; decide)) rfl rfl ?_
              rintro _ w12 ⟨⟨rfl, hT2⟩, hx⟩
              replace H := Ext.upd H hx (xg_old hT (Nat.le_refl _)); replace hb6 := box_xg hb6 hT (by decide) hx; replace hR := hR.xg hT hx; replace hC := hC.xg hT (by omega) (by omega) hx
              replace hT := hT2; clear hT2
              refine RL.nil ?_
              refine AL.nil (by kernel_rfl) ?_
              refine ⟨(), Head.intro (by repeat (first | with_reducible exact AgreeOff.refl _ _ | with_reducible exact AgreeOff.mix _ _ _ | refine AgreeOff.look rfl ?_ | refine AgreeOff.mixs rfl ?_)) trivial, H, hb6, ⟨_, hT⟩, hC, hR⟩
          rintro _ jc w13 ⟨H, hb6, ⟨G9, hT⟩, hC, hR⟩
          refine WP.regionS ?_
          refine RL.r (mvP rfl) rfl ?_
          -- call (*stagecoach/group.Group).Expire (tmp 41) (const (int i64 1099511627776))
          refine RL.call (gExpire _ _ gi gm G9 hT 1099511627776) rfl rfl ?_
          rintro v w14 ⟨⟨⟨aE, cE, rfl, _⟩, hT2⟩, hx⟩
          replace H := Ext.upd H hx (xg_old hT (Nat.le_refl _)); replace hb6 := box_xg hb6 hT (by decide) hx; replace hR := hR.xg hT hx; replace hC := hC.xg hT (by omega) (by omega) hx
          replace hT := hT2; clear hT2
          refine RL.nil ?_
          refine WP.regionS ?_
          refine RL.r (mvP rfl) rfl ?_
          refine RL.r (peqn rfl rfl) rfl ?_
          refine RL.nil ?_
          refine WP.cond rfl (fun hc => ?_) (fun hc => ?_)
          · refine WP.regionS ?_
            refine RL.r (asgB rfl) rfl ?_
            refine RL.nil ?_
            refine WP.ret ?_
            refine fin1_ret rfl ⟨absurd hc (by simp), H⟩
          · refine WP.skip ?_
            refine ⟨(gi2, gm2), Head.intro (by repeat (first | with_reducible exact AgreeOff.refl _ _ | with_reducible exact AgreeOff.mix _ _ _ | refine AgreeOff.look rfl ?_ | refine AgreeOff.mixs rfl ?_)) ⟨rfl, trivial⟩, H, hb6, hC, hR⟩
        · refine WP.skip ?_
          refine ⟨(gi, gm), Head.intro (by repeat (first | with_reducible exact AgreeOff.refl _ _ | with_reducible exact AgreeOff.mix _ _ _ | refine AgreeOff.look rfl ?_ | refine AgreeOff.mixs rfl ?_)) ⟨rfl, trivial⟩, H, hb6, hT, hR⟩
      rintro y jc w15 ⟨H, hb6, hT, hR⟩
      refine WP.regionS ?_
      refine RL.r (mvP rfl) rfl ?_
      refine RL.r (fa_box rfl) rfl ?_
      refine RL.r (fa_box rfl) rfl ?_
      refine RL.r (fa_box rfl) rfl ?_
      refine RL.m (ld_box rfl hb6 rfl) rfl ?_
      refine RL.r (fa_box rfl) rfl ?_
      refine RL.m (ld_box rfl hb6 rfl) rfl ?_
      -- call (*stagecoach/group.Group).Fence (tmp 45) (tmp 49) (tmp 51)
      refine RL.call (gFence _ _ y.1 y.2 G hT l[j].s.name l[j].gen) rfl rfl ?_
      rintro _ w16 ⟨rfl, hx⟩
      replace H := H.ext hx; replace hb6 := hb6.ext hx; replace hT := hT.ext hx; replace hR := hR.ext hx
      refine RL.r (asgI rfl) rfl ?_
      refine RL.nil ?_
      refine WP.seq ?_
      refine WP.regionS ?_
      refine RL.r (mvI rfl) rfl ?_
      refine RL.r (mvP rfl) rfl ?_
      refine RL.r (fa_box rfl) rfl ?_
      refine RL.r (fa_box rfl) rfl ?_
      refine RL.r (fa_box rfl) rfl ?_
      refine RL.m (ld_box rfl hb6 rfl) rfl ?_
      refine RL.r (fa_box rfl) rfl ?_
      refine RL.m (ld_box rfl hb6 rfl) rfl ?_
      -- call (*stagecoach/stagecoachref11.Group).Fence (tmp 54) (tmp 58) (tmp 60)
      refine RL.call (rFence _ _ i13 ra G hR l[j].s.name l[j].gen) rfl rfl ?_
      rintro _ w17 ⟨rfl, hx⟩
      replace H := H.ext hx; replace hb6 := hb6.ext hx; replace hT := hT.ext hx; replace hR := hR.ext hx
      refine RL.r (neq rfl rfl) rfl ?_
      refine RL.mvF rfl (fun h => h rfl) rfl ?_
      refine RL.yes rfl rfl rfl ?_
      refine RL.r (mvP rfl) rfl ?_
      refine RL.yes rfl rfl rfl ?_
      refine RL.r (mvP rfl) rfl ?_
      refine RL.yes rfl rfl rfl ?_
      refine RL.m (ldS_box rfl hb6 (Nat.le_of_ble_eq_true rfl) rfl) rfl ?_
      refine RL.yes rfl rfl rfl ?_
      -- call stagecoach/stagecoachlaw11.step (tmp 64) (tmp 65) (tmp 66)
      refine RL.call (lStep _ _ y.1 y.2 i13 ra G hT hR l[j] (fun h => (hinj.1 h).ext H)) rfl rfl ?_
      rintro _ w18 ⟨⟨rfl, G2, ra2, hT2, hR2⟩, hx⟩
      replace H := Ext.upd H hx (xs_old hT hR (Nat.le_refl _)); replace hb6 := box_xs hb6 hT hR (by decide) (by decide) (by decide) hx
      replace hT := hT2; clear hT2
      replace hR := hR2; clear hR2
      refine RL.yes rfl rfl rfl ?_
      first | refine RL.r (notD rfl) rfl ?_ | refine RL.r (not_ rfl) rfl ?_
      refine RL.r (pickF rfl) rfl ?_
      refine RL.mvF rfl (fun h => h rfl) rfl ?_
      refine RL.yes rfl rfl rfl ?_
      refine RL.r (mvP rfl) rfl ?_
      refine RL.yes rfl rfl rfl ?_
      refine RL.r (mvP rfl) rfl ?_
      refine RL.yes rfl rfl rfl ?_
      -- call stagecoach/stagecoachlaw11.same (tmp 71) (tmp 72)
      refine RL.call (lSame _ _ y.1 y.2 i13 ra2 G2 hT hR) rfl rfl ?_
      rintro _ w19 ⟨rfl, hx⟩
      replace H := H.ext hx; replace hb6 := hb6.ext hx; replace hT := hT.ext hx; replace hR := hR.ext hx
      refine RL.yes rfl rfl rfl ?_
      first | refine RL.r (notD rfl) rfl ?_ | refine RL.r (not_ rfl) rfl ?_
      refine RL.r (pickF rfl) rfl ?_
      refine RL.nil ?_
      refine WP.cond rfl (fun hc => ?_) (fun hc => ?_)
      · refine WP.regionS ?_
        refine RL.r (asgB rfl) rfl ?_
        refine RL.nil ?_
        refine WP.ret ?_
        refine fin1_ret rfl ⟨absurd rfl hc, H⟩
      · refine WP.skip ?_
        refine WP.regionS ?_
        refine RL.r (mvP rfl) rfl ?_
        -- call (*stagecoach/group.Group).Seats (tmp 76)
        have hs19 := H.size
        have hT19 := hT
        have hR19 := hR
        have hb6l := hb6.lt
        refine RL.call (gSeats _ _ y.1 y.2 G2 hT) rfl rfl ?_
        rintro v w20 ⟨⟨a9, c9, L, rfl, hL, hLm, hLo, hLa⟩, hx⟩
        replace H := H.ext hx; replace hb6 := hb6.ext hx; replace hT := hT.ext hx; replace hR := hR.ext hx
        have H19 := hx
        have hLo2 := OwnsL.of hLo
        have hL8 : L.length ≤ 8 := by rw [← List.length_map (f := Seat.st), hLm]; exact hT19.ok.len
        refine RL.r (asgL rfl) rfl ?_
        refine RL.nil ?_
        refine WP.regionS ?_
        refine RL.r (asgI rfl) rfl ?_
        refine RL.nil ?_
        refine WP.block ?_
        refine WP.loop (fun k1 e' w' => ∃ j1 : Nat,  j1 + k1 = L.length ∧ Head [10, 78, 79, 80, 81, 82, 83, 84, 85, 86, 87, 88, 89, 90, 91, 92, 93, 94, 95, 96, 97, 98] _ [(10, .int .i64 (j1 : Int))] e' ∧ Ext w0 w' ∧ Box w0.heap.size w' i6 44 (Lies.enc l[j]) ∧ Own w19.heap.size w' 31 a9 c9 L ∧ OwnsL w19.heap.size w' L ∧ Ext w19 w') (L.length)
          ⟨0, by omega, Head.intro (AgreeOff.refl _ _) ⟨rfl, trivial⟩, H, hb6, hL, hLo2, H19⟩ ?_
        clear H hb6 hL hLo2 H19
        rintro k1 e w21 ⟨j1, hjk1, ⟨jk1, rfl⟩, H, hb6, hL, hLo2, H19⟩
        refine WP.seq ?_
        refine WP.regionS ?_
        refine RL.r (mvI rfl) rfl ?_
        refine RL.r (mvL rfl) rfl ?_
        refine RL.r (len_sl rfl) rfl ?_
        refine RL.r (lss rfl rfl) rfl ?_
        refine RL.nil ?_
        refine WP.cond rfl (fun hc => ?_) (fun hc => ?_)
        · refine WP.skip ?_
          refine WP.seq ?_
          refine WP.block ?_
          refine WP.regionS ?_
          refine RL.r (mvL rfl) rfl ?_
          refine RL.r (mvI rfl) rfl ?_
          have hj1 : j1 < L.length := by omega
          have hLs := hL.sl
          obtain ⟨q1, hq1⟩ := hLs.isAddr (by decide) hj1
          subst hq1
          refine RL.r (ix rfl rfl rfl hj1) rfl ?_
          refine RL.r (fa_el hLs.1 rfl) rfl ?_
          refine RL.r (fa_el hLs.1 rfl) rfl ?_
          refine RL.m (ld_el rfl hLs (Ext.refl _) rfl hj1 rfl) rfl ?_
          refine RL.r (len_sl rfl) rfl ?_
          refine RL.r (gtr rfl rfl) rfl ?_
          refine RL.nil ?_
          refine WP.cond rfl (fun hc => ?_) (fun hc => ?_)
          · refine WP.region ?_
            refine RL.r (mvL rfl) rfl ?_
            refine RL.r (mvI rfl) rfl ?_
            obtain ⟨T9, hTl, hTo⟩ := hLo2 j1 hj1
            have h09 : 0 < T9.length := by omega
            obtain ⟨q2, hq2⟩ := hTo.sl.isAddr (by decide) h09
            have hTo2 := hTo
            rw [hq2] at hTo2
            refine RL.r (ix rfl rfl rfl hj1) rfl ?_
            refine RL.r (fa_el hLs.1 rfl) rfl ?_
            refine RL.r (fa_el hLs.1 rfl) rfl ?_
            refine RL.m (ld_el rfl hLs (Ext.refl _) rfl hj1 (hdrS hq2)) rfl ?_
            refine RL.r (ix rfl rfl (show (0 : Int) = ((0 : Nat) : Int) from rfl) (by omega)) rfl ?_
            refine RL.setOwn (u := (⟨#[115, 112, 111, 105, 108, 116]⟩ : ByteArray)) (i := 0) (off := 0) (v := .string ⟨#[115, 112, 111, 105, 108, 116]⟩) (vs := [.string ⟨#[115, 112, 111, 105, 108, 116]⟩]) rfl hTo2 h09 rfl rfl rfl (Nat.le_of_ble_eq_true rfl) rfl (fun v hv => by obtain rfl := List.mem_singleton.1 hv; rfl) ?_
            intro w99 hu hT3
            replace hb6 := hb6.upd hu (fun h => by have := (hTo2.blk h).1; omega)
            replace H := Ext.own H (hTo2.mono hs19) hu
            replace H19 := Ext.own H19 hTo2 hu
            replace hL := hL.upd hu (fun y hy => hL.apart hTo2 (by decide) hy)
            replace hLo2 := hLo2.put hLa hj1 (T := T9.set 0 ⟨#[115, 112, 111, 105, 108, 116]⟩) (by rw [List.length_set]; exact hTl) (by rw [hq2]; exact hT3) (by rw [hq2]; exact hu)
            refine RL.nil ?_
            refine WP.region ?_
            refine RL.r (mvI rfl) rfl ?_
            refine RL.r (add rfl rfl (by omega)) rfl ?_
            refine RL.r (asgI rfl) rfl ?_
            refine RL.nil ?_
            refine ⟨k1 - 1, by omega, j1 + 1, by omega, Head.intro (by repeat (first | with_reducible exact AgreeOff.mix _ _ _ | refine AgreeOff.look rfl ?_ | refine AgreeOff.mixs rfl ?_)) ⟨rfl, trivial⟩, H, hb6, hL, hLo2, H19⟩
          · refine WP.skip ?_
            refine WP.region ?_
            refine RL.r (mvI rfl) rfl ?_
            refine RL.r (add rfl rfl (by omega)) rfl ?_
            refine RL.r (asgI rfl) rfl ?_
            refine RL.nil ?_
            refine ⟨k1 - 1, by omega, j1 + 1, by omega, Head.intro (by repeat (first | with_reducible exact AgreeOff.mix _ _ _ | refine AgreeOff.look rfl ?_ | refine AgreeOff.mixs rfl ?_)) ⟨rfl, trivial⟩, H, hb6, hL, hLo2, H19⟩
        · refine WP.exit ?_
          refine WP.region ?_
          refine RL.r (mvI rfl) rfl ?_
          refine RL.r (add rfl rfl (by omega)) rfl ?_
          refine RL.r (asgI rfl) rfl ?_
          refine RL.nil ?_
          refine ⟨k - 1, by omega, j + 1, G2, y.1, y.2, ra2, by omega, Head.intro (by repeat (first | with_reducible exact AgreeOff.mix _ _ _ | refine AgreeOff.look rfl ?_ | refine AgreeOff.mixs rfl ?_)) ⟨rfl, rfl, trivial⟩, H, hT19.ext H19, hR19.ext H19⟩
    · refine WP.exit ?_
      refine WP.regionS ?_
      -- call stagecoach/stagecoachlaw11.fixed 
      refine RL.call (lFixed _) rfl rfl ?_
      rintro _ w23 ⟨rfl, hx⟩
      replace H := H.ext hx; replace hT := hT.ext hx; replace hR := hR.ext hx
      refine RL.r (asgB rfl) rfl ?_
      refine RL.nil ?_
      refine WP.ret ?_
      refine fin1_ret rfl ⟨rfl, H⟩
end Go.Proofs.Ytlkpgeopcdhgjaa
