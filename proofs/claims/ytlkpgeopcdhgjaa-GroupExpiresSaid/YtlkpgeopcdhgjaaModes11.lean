/-
  GroupModes: the plain law and the walk.
-/
import Derived.Test.YtlkpgeopcdhgjaaFix11b
import Derived.Test.YtlkpgeopcdhgjaaSlc
set_option linter.unusedVariables false
namespace Go.Proofs.Ytlkpgeopcdhgjaa
open Go Go.Eng Go.RowKit
def nmC (l : List UInt8) : List ByteArray := l.map fun c => ⟨#[c]⟩
abbrev c4 : List UInt8 := [97, 98, 99, 100]
abbrev c8 : List UInt8 := [97, 98, 99, 100, 101, 102, 103, 104]
theorem nmC_srt {l : List UInt8} (h : l.Pairwise (· < ·)) : (nmC l).Pairwise slt := List.pairwise_map.2 (h.imp fun h => slt_one h)
theorem sAt_srt {l : List UInt8} (h : l.Pairwise (· < ·)) : ((nmC l).map sAt).Pairwise bfr := List.pairwise_map.2 (nmC_srt h)
/-- seats that come one behind the other -/
structure Line (ST : List St) : Prop where
  srt : ST.Pairwise bfr
  may : ∀ x ∈ ST, mayS x
  len : ST.length ≤ 8
def gj (ST : List St) (rb : Bool) (j : Nat) : Gs := ⟨(j : Int), if j = 0 then false else rb, ST.take j⟩
theorem gj0 (ST : List St) (rb : Bool) : gj ST rb 0 = g0 := rfl
theorem gj_join {ST : List St} (h : Line ST) (rb : Bool) {j : Nat} (hj : j < ST.length) : joinE (gj ST rb j) ST[j] rb = 0 ∧ joinG (gj ST rb j) ST[j] rb = gj ST rb (j + 1) := by
  have hl := h.len
  have hE : joinE (gj ST rb j) ST[j] rb = 0 := by
    refine join_ok (h.may _ (List.getElem_mem hj)) ?_ ?_ ?_
    · unfold gj
      by_cases h0 : j = 0
      · left; subst h0; rfl
      · right; simp only; rw [if_neg h0]
    · unfold gj
      simp only [List.length_take]
      omega
    · unfold gj
      simp only
      omega
  refine ⟨hE, ?_⟩
  rw [joinG_ok hE]
  unfold gj
  simp only
  rw [ePut_take hj (h.srt.sublist (List.take_sublist _ _)), if_neg (by omega)]
  simp
theorem gj_mode {ST : List St} {rb : Bool} {j : Nat} {s : St} (hs : mayS s) (h0 : 0 < j) (hj : j ≤ ST.length) : joinE (gj ST rb j) s (!rb) = 112 ∧ joinG (gj ST rb j) s (!rb) = gj ST rb j := by
  have hE : joinE (gj ST rb j) s (!rb) = 112 := by
    unfold joinE
    rw [if_neg (not_not_intro hs), if_pos]
    refine ⟨?_, ?_⟩
    · unfold gj; simp only [List.length_take]; omega
    · unfold gj
      simp only
      rw [if_neg (by omega)]
      cases rb <;> decide
  refine ⟨hE, ?_⟩
  unfold joinG
  rw [if_neg (by rw [hE]; decide)]
/-- they leave one behind the other -/
def lv (ST : List St) (rb : Bool) (k i : Nat) : Gs := ⟨((k + i : Nat) : Int), rb, (ST.take k).drop i⟩
theorem lv0 (ST : List St) (rb : Bool) {k : Nat} (h : 0 < k) : gj ST rb k = lv ST rb k 0 := by
  unfold gj lv
  rw [if_neg (by omega)]
  simp
theorem eDel_head {x : St} {S : List St} (h : (x :: S).Pairwise bfr) : eDel (x :: S) x.name = S := by
  unfold eDel
  rw [List.filter_cons_of_neg (by simp only [decide_eq_true_eq]; exact fun h => h rfl), List.filter_eq_self]
  intro y hy
  have := bfr_key ((List.pairwise_cons.1 h).1 y hy)
  simp only [decide_eq_true_eq]
  exact fun e => this e.symm
theorem lv_leave {ST : List St} (h : Line ST) (rb : Bool) {k i : Nat} (hk : k ≤ ST.length) (hi : i < k) : fenceE (lv ST rb k i) (ST[i]'(by omega)).name ((k + i : Nat) : Int) = 0 ∧ leaveG (lv ST rb k i) (ST[i]'(by omega)).name ((k + i : Nat) : Int) = lv ST rb k (i + 1) := by
  have hl := h.len
  have hd : (ST.take k).drop i = (ST[i]'(by omega)) :: (ST.take k).drop (i + 1) := by
    rw [List.drop_eq_getElem_cons (by rw [List.length_take]; omega), List.getElem_take]
  have hF : fenceE (lv ST rb k i) (ST[i]'(by omega)).name ((k + i : Nat) : Int) = 0 := by
    unfold fenceE
    rw [if_neg, if_neg (by simp [lv])]
    unfold lv
    simp only
    rw [hd, eGet_yes rfl]
    exact Option.some_ne_none _
  refine ⟨hF, ?_⟩
  unfold leaveG
  rw [if_pos hF]
  show (⟨nextN ((k + i : Nat) : Int), rb, eDel ((ST.take k).drop i) (ST[i]'(by omega)).name⟩ : Gs) = ⟨((k + (i + 1) : Nat) : Int), rb, (ST.take k).drop (i + 1)⟩
  have hs : ((ST.take k).drop i).Pairwise bfr := (h.srt.sublist (List.take_sublist _ _)).sublist (List.drop_sublist _ _)
  rw [hd] at hs ⊢
  rw [eDel_head hs]
  have hn : nextN ((k + i : Nat) : Int) = ((k + (i + 1) : Nat) : Int) := by unfold nextN; omega
  rw [hn]
theorem lv_end (ST : List St) (rb : Bool) {k : Nat} : lv ST rb k k = ⟨((k + k : Nat) : Int), rb, []⟩ := by
  unfold lv
  rw [List.drop_of_length_le (by rw [List.length_take]; omega)]
theorem lv_new {rb rb' : Bool} {n : Int} {s : St} (hs : mayS s) (hn : n < 1099511627776) : joinE ⟨n, rb, []⟩ s rb' = 0 ∧ joinV ⟨n, rb, []⟩ s rb' = n + 1 ∧ joinG ⟨n, rb, []⟩ s rb' = ⟨n + 1, rb', [s]⟩ := by
  have hE : joinE ⟨n, rb, []⟩ s rb' = 0 := join_ok hs (.inl rfl) (show ([] : List St).length < 8 by decide) hn
  exact ⟨hE, joinV_ok hE, (joinG_ok hE).trans rfl⟩
theorem line4 : Line ((nmC c4).map sAt) := by
  refine ⟨sAt_srt (by decide), ?_, by decide⟩
  intro x hx
  obtain ⟨y, hy, rfl⟩ := List.mem_map.1 hx
  obtain ⟨c, hc, rfl⟩ := List.mem_map.1 hy
  exact may_at c ((show ∀ c ∈ c4, okb c = true by decide) c hc) 0 (by decide)
abbrev ST4 : List St := (nmC c4).map sAt
theorem st4_get {j : Nat} (hj : j < 4) : ST4[j]'(by simpa [nmC] using hj) = sAt ((nmC c4)[j]'(by simpa [nmC] using hj)) := by simp
theorem not_ne (b : Bool) : (!b) ≠ b := by cases b <;> decide
theorem lModes (w0 : World) (robin : Bool) (n : Int) :
    Ct Try.prog 3 #[.bool robin, .int .i64 n] w0 fun v w' => v = .bool true ∧ Ext w0 w' := by
  refine Ct.intro1 Try.func3 Try.ntmps3 rfl rfl (by decide) rfl ?_
  have H : Ext w0 w0 := Ext.refl w0
  have hk3 := andv_le 3 (by decide) n
  refine WP.regionS ?_
  refine RL.r (asgB rfl) rfl ?_
  refine RL.nil ?_
  refine WP.regionS ?_
  -- call stagecoach/group.New 
  refine RL.call (gNew _) rfl rfl ?_
  rintro v w1 ⟨⟨i, m, rfl, hT⟩, hx⟩
  replace H := H.ext hx
  refine RL.buildSlice w0.heap.size H.size rfl rfl rfl rfl rfl ?_
  intro w2 i19 hi19 hx hb19
  replace H := H.ext hx; replace hT := hT.ext hx; clear hx
  refine RL.r (asgP rfl) rfl ?_
  refine RL.r (asgL rfl) rfl ?_
  refine RL.nil ?_
  refine WP.seq ?_
  refine WP.regionS ?_
  refine RL.r (mvP rfl) rfl ?_
  refine RL.r (peqn rfl rfl) rfl ?_
  refine RL.nil ?_
  refine WP.cond rfl (fun hc => ?_) (fun hc => ?_)
  · refine WP.regionS ?_
    refine RL.r (asgB rfl) rfl ?_
    refine RL.nil ?_
    refine WP.ret ?_
    refine fin1_ret rfl ⟨absurd hc (by simp), H⟩
  · refine WP.skip ?_
    refine WP.regionS ?_
    refine RL.r (mvI rfl) rfl ?_
    refine RL.r (andk (K := 3) rfl rfl (by decide)) rfl ?_
    refine RL.r (add rfl rfl (by omega)) rfl ?_
    refine RL.r (asgI rfl) rfl ?_
    refine RL.nil ?_
    refine WP.seq ?_
    refine WP.regionS ?_
    refine RL.r (asgI rfl) rfl ?_
    refine RL.nil ?_
    refine WP.block ?_
    obtain ⟨kk, hkk⟩ : ∃ kk : Nat, kk = 1 + andv 3 n := ⟨_, rfl⟩
    have hl4 : ST4.length = 4 := by decide
    refine WP.loop (fun k e' w' => ∃ j : Nat,  j + k = kk ∧ Head [8, 25, 26, 27, 28, 29, 30, 31, 32, 33, 34, 35, 36, 37] _ [(8, .int .i64 (j : Int))] e' ∧ Ext w0 w' ∧ Box w0.heap.size w' i19 9 ((nmC c4).flatMap Lies.enc) ∧ Tg w0.heap.size w' i m (gj ST4 robin j)) (kk)
      ⟨0, by omega, Head.intro (AgreeOff.refl _ _) ⟨rfl, trivial⟩, H, hb19, hT⟩ ?_
    clear H hb19 hT
    rintro k e w3 ⟨j, hjk, ⟨jk, rfl⟩, H, hb19, hT⟩
    refine WP.seq ?_
    refine WP.regionS ?_
    refine RL.r (mvI rfl) rfl ?_
    refine RL.r (mvI rfl) rfl ?_
    refine RL.r (lss rfl rfl) rfl ?_
    refine RL.nil ?_
    refine WP.cond rfl (fun hc => ?_) (fun hc => ?_)
    · refine WP.skip ?_
      refine WP.seq ?_
      refine WP.block ?_
      refine WP.region ?_
      refine RL.r (mvP rfl) rfl ?_
      refine RL.r (mvL rfl) rfl ?_
      refine RL.r (mvI rfl) rfl ?_
      have hj : j < 4 := by omega
      have hjl : j < (nmC c4).length := by simpa [nmC] using hj
      refine RL.r (ix rfl rfl rfl hj) rfl ?_
      refine RL.m (ld_e0 rfl (Box.sl (l := nmC c4) hb19) (Ext.refl _) rfl hjl rfl) rfl ?_
      -- call stagecoach/stagecoachlaw11.seat (tmp 34)
      refine RL.call (lSeat _ _) rfl rfl ?_
      rintro v w4 ⟨⟨s, rfl, hss, hl⟩, hx⟩
      replace H := H.ext hx; replace hb19 := hb19.ext hx; replace hT := hT.ext hx
      refine RL.r (mvB rfl) rfl ?_
      -- call (*stagecoach/group.Group).Join (tmp 30) (tmp 35) (tmp 36)
      have hjs : j < ST4.length := by omega
      obtain ⟨hE, hG⟩ := gj_join line4 robin hjs
      have hs4 : s.st = ST4[j] := hss.trans (st4_get hj).symm
      refine RL.call (gJoin _ _ i m (gj ST4 robin j) hT s robin hl (by rw [show s.topics = [tS] from congrArg St.topics hss]; decide)) rfl rfl ?_
      rintro _ w5 ⟨⟨rfl, hT2⟩, hx⟩
      replace H := Ext.upd H hx (xg_old hT (Nat.le_refl _)); replace hb19 := box_xg hb19 hT (by decide) hx
      rw [hs4, hG] at hT2
      replace hT := hT2; clear hT2
      refine RL.nil ?_
      refine WP.region ?_
      refine RL.r (mvI rfl) rfl ?_
      refine RL.r (add rfl rfl (by omega)) rfl ?_
      refine RL.r (asgI rfl) rfl ?_
      refine RL.nil ?_
      refine ⟨k - 1, by omega, j + 1, by omega, Head.intro (by repeat (first | with_reducible exact AgreeOff.mix _ _ _ | refine AgreeOff.look rfl ?_ | refine AgreeOff.mixs rfl ?_)) ⟨rfl, trivial⟩, H, hb19, hT⟩
    · refine WP.exit ?_
      refine WP.regionS ?_
      refine RL.r (mvP rfl) rfl ?_
      -- call stagecoach/stagecoachlaw11.seat (const (string {data:#[120]}))
      have hjk4 : j = kk := by omega
      subst hjk4
      refine RL.call (lSeat _ _) rfl rfl ?_
      rintro v w6 ⟨⟨s, rfl, hss, hl⟩, hx⟩
      replace H := H.ext hx; replace hb19 := hb19.ext hx; replace hT := hT.ext hx
      refine RL.r (mvB rfl) rfl ?_
      first | refine RL.r (notD rfl) rfl ?_ | refine RL.r (not_ rfl) rfl ?_
      -- call (*stagecoach/group.Group).Join (tmp 39) (tmp 40) (tmp 42)
      have hx1 : mayS s.st := by rw [hss]; exact may_at 120 (by decide) 0 (by decide)
      obtain ⟨hE, hG⟩ := gj_mode (ST := ST4) (rb := robin) (j := j) hx1 (by omega) (by omega)
      refine RL.call (gJoin _ _ i m (gj ST4 robin j) hT s (!robin) hl (by rw [show s.topics = [tS] from congrArg St.topics hss]; decide)) rfl rfl ?_
      rintro _ w7 ⟨⟨rfl, hT2⟩, hx⟩
      replace H := Ext.upd H hx (xg_old hT (Nat.le_refl _)); replace hb19 := box_xg hb19 hT (by decide) hx
      rw [hG] at hT2
      replace hT := hT2; clear hT2
      refine RL.r (mvU rfl) rfl ?_
      refine RL.r (ex0 rfl) rfl ?_
      refine RL.r (ex1 rfl) rfl ?_
      refine RL.r (asgI rfl) rfl ?_
      refine RL.r (asgI rfl) rfl ?_
      refine RL.nil ?_
      refine WP.seq ?_
      refine WP.regionS ?_
      refine RL.r (asgI rfl) rfl ?_
      refine RL.nil ?_
      refine WP.block ?_
      rw [lv0 ST4 robin (by omega)] at hT
      refine WP.loop (fun k1 e' w' => ∃ j1 : Nat,  j1 + k1 = j ∧ Head [4, 11, 12, 13, 46, 47, 48, 49, 50, 51, 52, 53, 54, 55, 56, 57, 58, 59, 60, 61, 62, 63, 64, 65, 66, 67, 68] _ [(11, .int .i64 (j1 : Int))] e' ∧ Ext w0 w' ∧ Box w0.heap.size w' i19 9 ((nmC c4).flatMap Lies.enc) ∧ Tg w0.heap.size w' i m (lv ST4 robin j j1)) (j)
        ⟨0, by omega, Head.intro (AgreeOff.refl _ _) ⟨rfl, trivial⟩, H, hb19, hT⟩ ?_
      clear H hb19 hT
      rintro k1 e w8 ⟨j1, hjk1, ⟨jk1, rfl⟩, H, hb19, hT⟩
      refine WP.seq ?_
      refine WP.regionS ?_
      refine RL.r (mvI rfl) rfl ?_
      refine RL.r (mvI rfl) rfl ?_
      refine RL.r (lss rfl rfl) rfl ?_
      refine RL.nil ?_
      refine WP.cond rfl (fun hc => ?_) (fun hc => ?_)
      · refine WP.skip ?_
        refine WP.seq ?_
        refine WP.block ?_
        refine WP.regionS ?_
        refine RL.r (mvP rfl) rfl ?_
        -- call (*stagecoach/group.Group).Gen (tmp 52)
        refine RL.call (gGen _ _ i m (lv ST4 robin j j1) hT) rfl rfl ?_
        rintro _ w9 ⟨rfl, hx⟩
        replace H := H.ext hx; replace hb19 := hb19.ext hx; replace hT := hT.ext hx
        refine RL.r (mvU rfl) rfl ?_
        refine RL.r (ex0 rfl) rfl ?_
        refine RL.r (ex1 rfl) rfl ?_
        refine RL.r (asgI rfl) rfl ?_
        refine RL.r (asgB rfl) rfl ?_
        refine RL.nil ?_
        refine WP.regionS ?_
        refine RL.r (mvB rfl) rfl ?_
        refine RL.r (mvB rfl) rfl ?_
        refine RL.r (bneq rfl rfl) rfl ?_
        refine RL.part rfl rfl (fun hg => ?_) (fun hg => ?_)
        · refine RL.no rfl rfl rfl rfl ?_
          refine RL.no rfl rfl rfl rfl ?_
          refine RL.no rfl rfl rfl rfl ?_
          refine RL.no rfl rfl rfl rfl ?_
          refine RL.no rfl rfl rfl rfl ?_
          refine RL.no rfl rfl rfl rfl ?_
          refine RL.no rfl rfl rfl rfl ?_
          refine RL.no rfl rfl rfl rfl ?_
          refine RL.r (pickT rfl) rfl ?_
          refine RL.nil ?_
          refine WP.condT rfl rfl ?_
          refine WP.regionS ?_
          refine RL.r (asgB rfl) rfl ?_
          refine RL.nil ?_
          refine WP.ret ?_
          refine fin1_ret rfl ⟨absurd rfl (by assumption), H⟩
        · refine RL.yes rfl rfl rfl ?_
          refine RL.r (mvP rfl) rfl ?_
          refine RL.yes rfl rfl rfl ?_
          refine RL.r (mvL rfl) rfl ?_
          refine RL.yes rfl rfl rfl ?_
          refine RL.r (mvI rfl) rfl ?_
          refine RL.yes rfl rfl rfl ?_
          have hj1 : j1 < 4 := by omega
          have hj1l : j1 < (nmC c4).length := by simpa [nmC] using hj1
          refine RL.r (ix rfl rfl rfl hj1) rfl ?_
          refine RL.yes rfl rfl rfl ?_
          refine RL.m (ld_e0 rfl (Box.sl (l := nmC c4) hb19) (Ext.refl _) rfl hj1l rfl) rfl ?_
          refine RL.yes rfl rfl rfl ?_
          refine RL.r (mvI rfl) rfl ?_
          refine RL.yes rfl rfl rfl ?_
          -- call (*stagecoach/group.Group).Leave (tmp 60) (tmp 64) (tmp 65)
          obtain ⟨hF, hG⟩ := lv_leave line4 robin (k := j) (i := j1) (by rw [hl4]; omega) (by omega)
          rw [st4_get hj1] at hF hG
          refine RL.call ((by have h := gLeave _ _ i m (lv ST4 robin j j1) hT (nmC c4)[j1] ((j + j1 : Nat) : Int); rw [hF, hG] at h; exact h)) rfl rfl ?_
          rintro _ w10 ⟨⟨rfl, hT2⟩, hx⟩
          replace H := Ext.upd H hx (xg_old hT (Nat.le_refl _)); replace hb19 := box_xg hb19 hT (by decide) hx
          replace hT := hT2; clear hT2
          refine RL.yes rfl rfl rfl ?_
          refine RL.r (neq rfl rfl) rfl ?_
          refine RL.r (pickF rfl) rfl ?_
          refine RL.nil ?_
          refine WP.cond rfl (fun hc => ?_) (fun hc => ?_)
          · refine WP.regionS ?_
            refine RL.r (asgB rfl) rfl ?_
            refine RL.nil ?_
            refine WP.ret ?_
            refine fin1_ret rfl ⟨absurd rfl (by assumption), H⟩
          · refine WP.skip ?_
            refine WP.region ?_
            refine RL.r (mvI rfl) rfl ?_
            refine RL.r (add rfl rfl (by omega)) rfl ?_
            refine RL.r (asgI rfl) rfl ?_
            refine RL.nil ?_
            refine ⟨k1 - 1, by omega, j1 + 1, by omega, Head.intro (by repeat (first | with_reducible exact AgreeOff.mix _ _ _ | refine AgreeOff.look rfl ?_ | refine AgreeOff.mixs rfl ?_)) ⟨rfl, trivial⟩, H, hb19, hT⟩
      · refine WP.exit ?_
        refine WP.regionS ?_
        refine RL.r (mvP rfl) rfl ?_
        -- call stagecoach/stagecoachlaw11.seat (const (string {data:#[120]}))
        refine RL.call (lSeat _ _) rfl rfl ?_
        rintro v w11 ⟨⟨s, rfl, hss, hl⟩, hx⟩
        replace H := H.ext hx; replace hb19 := hb19.ext hx; replace hT := hT.ext hx
        refine RL.r (mvB rfl) rfl ?_
        first | refine RL.r (notD rfl) rfl ?_ | refine RL.r (not_ rfl) rfl ?_
        -- call (*stagecoach/group.Group).Join (tmp 70) (tmp 71) (tmp 73)
        have hj1k : j1 = j := by omega
        subst hj1k
        rw [lv_end] at hT
        have hx1 : mayS s.st := by rw [hss]; exact may_at 120 (by decide) 0 (by decide)
        obtain ⟨hE9, hV9, hG9⟩ := lv_new (rb := robin) (rb' := !robin) (n := ((j1 + j1 : Nat) : Int)) hx1 (by omega)
        refine RL.call ((by have h := gJoin _ _ i m _ hT s (!robin) hl (by rw [show s.topics = [tS] from congrArg St.topics hss]; decide); rw [hE9, hV9, hG9] at h; exact h)) rfl rfl ?_
        rintro _ w12 ⟨⟨rfl, hT2⟩, hx⟩
        replace H := Ext.upd H hx (xg_old hT (Nat.le_refl _)); replace hb19 := box_xg hb19 hT (by decide) hx
        replace hT := hT2; clear hT2
        refine RL.r (mvU rfl) rfl ?_
        refine RL.r (ex0 rfl) rfl ?_
        refine RL.r (ex1 rfl) rfl ?_
        refine RL.r (asgI rfl) rfl ?_
        refine RL.r (asgI rfl) rfl ?_
        refine RL.nil ?_
        refine WP.regionS ?_
        refine RL.r (mvP rfl) rfl ?_
        -- call (*stagecoach/group.Group).Gen (tmp 78)
        refine RL.call (gGen _ _ i m _ hT) rfl rfl ?_
        rintro _ w13 ⟨rfl, hx⟩
        replace H := H.ext hx; replace hb19 := hb19.ext hx; replace hT := hT.ext hx
        refine RL.r (mvU rfl) rfl ?_
        refine RL.r (ex0 rfl) rfl ?_
        refine RL.r (ex1 rfl) rfl ?_
        refine RL.r (asgI rfl) rfl ?_
        refine RL.r (asgB rfl) rfl ?_
        refine RL.nil ?_
        refine WP.seq (WP.quiet ?_)
        refine QL.r (mvI rfl) rfl ?_
        refine QL.r (eql rfl rfl) rfl ?_
        refine QL.r (mvB rfl) rfl ?_
        refine QL.gg (gwT rfl rfl) (fun hg => (mvI rfl).does _) rfl ?_
        refine QL.gg (gwT rfl rfl) (fun hg => (eql (gs hg rfl) rfl).does _) rfl ?_
        refine QL.r (pickAnd rfl (fun hn => gs hn rfl)) rfl ?_
        refine QL.r (mvB rfl) rfl ?_
        refine QL.gg (gwT rfl rfl) (fun hg => (mvI rfl).does _) rfl ?_
        refine QL.gg (gwT rfl rfl) (fun hg => (mvI rfl).does _) rfl ?_
        refine QL.gg (gwT rfl rfl) (fun hg => (mul rfl (gs hg rfl) (by omega)).does _) rfl ?_
        refine QL.gg (gwT rfl rfl) (fun hg => (add (gs hg rfl) rfl (by omega)).does _) rfl ?_
        refine QL.gg (gwT rfl rfl) (fun hg => (eql (gs hg rfl) (gs hg rfl)).does _) rfl ?_
        refine QL.r (pickAnd rfl (fun hn => gs hn rfl)) rfl ?_
        refine QL.r (mvB rfl) rfl ?_
        refine QL.gg (gwT rfl rfl) (fun hg => (mvB rfl).does _) rfl ?_
        refine QL.gg (gwT rfl rfl) (fun hg => (mvB rfl).does _) rfl ?_
        refine QL.gg (gwT rfl rfl) (fun hg => (bneq (gs hg rfl) (gs hg rfl)).does _) rfl ?_
        refine QL.r (pickAnd rfl (fun hn => gs hn rfl)) rfl ?_
        refine QL.r (mvB rfl) rfl ?_
        -- call stagecoach/stagecoachlaw11.fixed 
        refine QL.gcall (gwT rfl rfl) (fun hg w' hw' => lFixedD w') (fun hg => EvL.nil) rfl ?_
        refine QL.r (pickAnd rfl (fun hn => gs hn rfl)) rfl ?_
        refine QL.r (asgB rfl) rfl ?_
        refine QL.nil ?_; intro w15 hx; replace H := H.ext hx; replace hb19 := hb19.ext hx; replace hT := hT.ext hx
        refine WP.ret ?_
        refine fin1_ret rfl ⟨congrArg Value.bool (decide_eq_true ⟨⟨⟨⟨hE, rfl⟩, by omega⟩, not_ne robin⟩, rfl⟩), H⟩
end Go.Proofs.Ytlkpgeopcdhgjaa
