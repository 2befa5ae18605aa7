/-
  The walks of a group's Load and Copy.
-/
import Derived.Test.YtlkpgeopcdhgjaaGrp6
set_option linter.unusedVariables false
namespace Go.Proofs.Ytlkpgeopcdhgjaa
open Go Go.Eng Go.RowKit
def loadOk (l : List Seat) : Prop := ∀ (i : Nat) (h : i < l.length), mayS l[i].st ∧ (0 < i → slt l[i - 1].name l[i].name)
noncomputable instance (l : List Seat) : Decidable (loadOk l) := Classical.propDecidable _
noncomputable def loadE (gen : Int) (l : List Seat) : Int := if 8 < l.length then 2 else if ¬ numB gen then 1 else if loadOk l then 0 else 1
theorem tupP {p : Option Addr} {x y : Int} (h : x = y) : Value.tuple #[.pointer p, .int .i64 x] = Value.tuple #[.pointer p, .int .i64 y] := by rw [h]
theorem ok_take {gen : Int} {rb : Bool} {l : List Seat} {j : Nat} (hn : numB gen) (hl : l.length ≤ 8) (h : ∀ (i : Nat) (h : i < l.length), i < j → mayS l[i].st ∧ (0 < i → slt l[i - 1].name l[i].name)) : okG ⟨gen, rb, (l.take j).map Seat.st⟩ := by
  refine ⟨?_, ?_, ?_, hn⟩
  · refine srt_of fun i hi h0 => ?_
    simp only [List.length_map, List.length_take] at hi
    simp only [List.getElem_map, List.getElem_take]
    exact (h i (by omega) (by omega)).2 h0
  · intro x hx
    obtain ⟨y, hy, rfl⟩ := List.mem_map.1 hx
    obtain ⟨i, hi, rfl⟩ := List.getElem_of_mem hy
    rw [List.length_take] at hi
    rw [List.getElem_take]
    exact (h i (by omega) (by omega)).1
  · simp only [List.length_map, List.length_take]; omega
theorem st_push {L : List Seat} {l : List Seat} {j : Nat} {s2 : Seat} (hj : j < l.length) (hL : L.map Seat.st = (l.take j).map Seat.st) (hs : s2.st = l[j].st) (hk : ((l.take (j + 1)).map Seat.st).Pairwise bfr) : (ePut L s2).map Seat.st = (l.take (j + 1)).map Seat.st := by
  rw [← ePut_map key_st, hL, hs]
  have h1 := ePut_take (l := l.map Seat.st) (j := j) (by simpa using hj) (by rw [← List.map_take]; exact hk)
  simpa using h1
/-- an entry's seat -/
theorem rep_entry {lb : List (ByteArray × Value × Nat)} {H : List Seat} (hr : Rep lb H) (hn : (lb.map (·.1)).Nodup) {q : ByteArray × Value × Nat} (hq : q ∈ lb) : ∃ h ∈ H, h.name = q.1 ∧ q.2.1 = .agg (Lies.enc h).toArray ∧ eGet H q.1 = some h := by
  have h1 : prB q ∈ H.map prS := hr.mem_iff.1 (List.mem_map.2 ⟨q, hq, rfl⟩)
  obtain ⟨h, hh, e⟩ := List.mem_map.1 h1
  have e1 : key h = q.1 := congrArg Prod.fst e
  have e2 : Valued.val h = q.2.1 := congrArg Prod.snd e
  refine ⟨h, hh, e1, e2.symm, ?_⟩
  rw [← e1]
  exact eGet_mem (rep_nodup hr hn) hh
def stq (H : List Seat) (q : ByteArray × Value × Nat) : St := ((eGet H q.1).getD zSeat).st
theorem stq_all {lb : List (ByteArray × Value × Nat)} {H : List Seat} (hr : Rep lb H) (hn : (lb.map (·.1)).Nodup) : (lb.map (stq H)).Perm (H.map Seat.st) := by
  have h1 := rep_keys hr
  have h2 := h1.map fun k => ((eGet H k).getD zSeat).st
  rw [List.map_map, List.map_map] at h2
  refine h2.trans (List.Perm.of_eq ?_)
  apply List.map_congr_left
  intro h hh
  simp only [Function.comp]
  rw [eGet_mem (rep_nodup hr hn) hh]
  rfl
theorem gLoad (w0 : World) (gen : Int) (robin : Bool) (a : Option Addr) (c0 : Nat) (l : List Seat) (hl : Sl w0 a l) (hts : ∀ x ∈ l, Sl w0 x.ta x.topics ∧ x.topics.length ≤ 100000) :
    Ct Try.prog 23 #[.int .i64 gen, .bool robin, .slice a l.length c0] w0 fun v w' => ((loadE gen l = 0 ∧ ∃ i m, v = .tuple #[.pointer (some ⟨i, 0, none⟩), .int .i64 0] ∧ Tg w0.heap.size w' i m ⟨gen, robin, l.map Seat.st⟩) ∨ (loadE gen l ≠ 0 ∧ v = .tuple #[.pointer none, .int .i64 (loadE gen l)])) ∧ Ext w0 w' := by
  refine Ct.intro2 Try.func23 Try.ntmps23 rfl rfl (by decide) rfl ?_
  have H : Ext w0 w0 := Ext.refl w0
  refine WP.regionS ?_
  refine RL.r (asgP rfl) rfl ?_
  refine RL.r (asgI rfl) rfl ?_
  refine RL.nil ?_
  refine WP.seq ?_
  refine WP.block ?_
  refine WP.regionS ?_
  refine RL.r (mvL rfl) rfl ?_
  refine RL.r (len_sl rfl) rfl ?_
  refine RL.r (gtr rfl rfl) rfl ?_
  refine RL.r (asgB rfl) rfl ?_
  refine RL.nil ?_
  refine WP.cond rfl (fun hc => ?_) (fun hc => ?_)
  · refine WP.regionS ?_
    refine RL.r (asgP rfl) rfl ?_
    refine RL.r (asgI rfl) rfl ?_
    refine RL.nil ?_
    refine WP.ret ?_
    have hE : loadE gen l = 2 := by unfold loadE; rw [if_pos (by omega)]
    refine fin2_ret rfl rfl ⟨.inr ⟨by rw [hE]; decide, tupP hE.symm⟩, H⟩
  · refine WP.regionS ?_
    refine RL.r (mvI rfl) rfl ?_
    -- call stagecoach/group.number (tmp 16)
    refine RL.call (pNum _ gen) rfl rfl ?_
    rintro _ w1 ⟨rfl, hx⟩
    replace H := H.ext hx
    first | refine RL.r (notD rfl) rfl ?_ | refine RL.r (not_ rfl) rfl ?_
    refine RL.r (asgB rfl) rfl ?_
    refine RL.nil ?_
    refine WP.cond rfl (fun hc => ?_) (fun hc => ?_)
    · refine WP.regionS ?_
      refine RL.r (asgP rfl) rfl ?_
      refine RL.r (asgI rfl) rfl ?_
      refine RL.nil ?_
      refine WP.ret ?_
      have hE : loadE gen l = 1 := by unfold loadE; rw [if_neg (by omega), if_pos hc]
      refine fin2_ret rfl rfl ⟨.inr ⟨by rw [hE]; decide, tupP hE.symm⟩, H⟩
    · refine WP.skip ?_
      refine WP.regionS ?_
      -- call stagecoach/group.New 
      have hszA := H.size
      refine RL.call (gNew _) rfl rfl ?_
      rintro v w2 ⟨⟨i, m, rfl, hN⟩, hx⟩
      replace H := H.ext hx
      replace hN := hN.mono hszA
      obtain ⟨Hc0, lb, c, hm, hr0, hst0, hOc0⟩ := hN.map
      have hbt := hN.box
      obtain rfl : Hc0 = [] := List.map_eq_nil_iff.1 hst0
      obtain rfl : lb = [] := List.eq_nil_of_length_eq_zero (rep_len hr0)
      refine RL.r (asgP rfl) rfl ?_
      refine RL.nil ?_
      refine WP.regionS ?_
      refine RL.r (mvP rfl) rfl ?_
      refine RL.r (mvP rfl) rfl ?_
      refine RL.r (mvI rfl) rfl ?_
      refine RL.r (mvB rfl) rfl ?_
      refine RL.r (nilck rfl) rfl ?_
      refine RL.r (fa_box rfl) rfl ?_
      have hbt_0 := hbt
      refine RL.store1 rfl hbt rfl rfl rfl rfl ?_
      intro w3 hu hbt
      change Box w0.heap.size w3 i 75 [.int .i64 gen, .bool false, .map (some m)] at hbt
      replace hm := hm.upd hu (hm.neb hbt_0)
      replace H := H.box hu hbt.old
      refine RL.r (nilck rfl) rfl ?_
      refine RL.r (fa_box rfl) rfl ?_
      have hbt_0 := hbt
      refine RL.store1 rfl hbt rfl rfl rfl rfl ?_
      intro w4 hu hbt
      replace hm := hm.upd hu (hm.neb hbt_0)
      replace H := H.box hu hbt.old
      refine RL.nil ?_
      refine WP.seq ?_
      refine WP.regionS ?_
      refine RL.r (mvL rfl) rfl ?_
      refine RL.r (len_sl rfl) rfl ?_
      refine RL.r (mvI rfl) rfl ?_
      refine RL.nil ?_
      refine WP.block ?_
      have hgen : numB gen := Classical.not_not.1 (by assumption)
      have hl8 : l.length ≤ 8 := by omega
      have hT : Tg w0.heap.size _ i m ⟨gen, robin, (l.take 0).map Seat.st⟩ := ⟨hbt, ⟨[], [], c, hm, List.Perm.refl _, rfl, Owns.nil _ _⟩, ok_take hgen hl8 (fun i h hi => by omega)⟩
      refine WP.loop (fun k e' w' => ∃ j : Nat,  j + k = l.length ∧ Head [6, 7, 9, 10, 30, 31, 32, 33, 34, 35, 36, 37, 38, 39, 40, 41, 42, 43, 44, 45, 46, 47, 48, 49, 50, 51, 52, 53, 54, 55, 56, 57, 58, 59, 60, 61, 62, 63, 64] _ [(30, .int .i64 (j : Int))] e' ∧ Ext w0 w' ∧ Box w0.heap.size w' i 75 [.int .i64 gen, .bool robin, .map (some m)] ∧ Tg w0.heap.size w' i m ⟨gen, robin, (l.take j).map Seat.st⟩ ∧ ∀ (i : Nat) (h : i < l.length), i < j → mayS l[i].st ∧ (0 < i → slt l[i - 1].name l[i].name)) (l.length)
        ⟨0, by omega, Head.intro (AgreeOff.refl _ _) ⟨rfl, trivial⟩, H, hbt, hT, fun i h hi => by omega⟩ ?_
      clear H hbt hm
      rintro k e w5 ⟨j, hjk, ⟨jk, rfl⟩, H, hbt, hT, hok⟩
      obtain ⟨Hc, lb, c, hm, hr, hst, hOc⟩ := hT.map
      have hnod := hm.nod
      refine WP.regionS ?_
      refine RL.r (lss rfl rfl) rfl ?_
      refine RL.nil ?_
      refine WP.seq ?_
      refine WP.cond rfl (fun hc => ?_) (fun hc => ?_)
      · refine WP.skip ?_
        refine WP.seq ?_
        refine WP.block ?_
        refine WP.regionS ?_
        refine RL.r (mvI rfl) rfl ?_
        have hj : j < l.length := by omega
        have hj1 : j - 1 < l.length := by omega
        obtain ⟨q, hq⟩ := hl.isAddr (by decide) hj
        subst hq
        obtain ⟨htp, htl⟩ := hts l[j] (List.getElem_mem hj)
        refine RL.r (ix rfl rfl rfl hj) rfl ?_
        refine RL.m (ldS_el rfl hl H rfl rfl hj) rfl ?_
        refine RL.alloc w0.heap.size H.size rfl rfl ?_
        intro w6 i10 hi10 hx hb10
        have net_10 := hbt.ne hi10
        refine RL.r (asgI rfl) rfl ?_
        refine RL.storeS rfl hb10 rfl rfl rfl rfl ?_
        intro w7 hu hb10
        replace hx := hx.box hu (Nat.le_of_eq hi10.symm)
        replace H := H.ext hx; replace hbt := hbt.ext hx; replace hm := hm.ext hx; replace hOc := hOc.ext hx; clear hx hu
        refine RL.nil ?_
        refine WP.seq ?_
        refine WP.seq ?_
        refine WP.draw (by kernel_rfl) ?_
        refine QL.m (ldS_box rfl hb10 (Nat.le_of_ble_eq_true rfl) rfl) rfl ?_
        -- call stagecoach/group.may (tmp 35)
        have hC : ∀ w', Ext w7 w' → Ct Try.prog 31 #[.agg (Lies.enc l[j]).toArray] w' fun u w'' => u = .bool (decide (mayS l[j].st)) ∧ Ext w' w'' := fun w' hw' => gMay w' l[j] (htp.ext (H.ext hw')) htl
        refine QL.call (fun w' hw' => hC w' hw') rfl rfl ?_
        first | refine QL.r (notD rfl) rfl ?_ | refine QL.r (not_ rfl) rfl ?_
        refine QL.r (mvB rfl) rfl ?_
        refine QL.gg (gwF rfl rfl) (fun hg => (mvI rfl).does _) rfl ?_
        refine QL.gg (gwF rfl rfl) (fun hg => (gtr (gs hg rfl) rfl).does _) rfl ?_
        refine QL.gg (gwF rfl rfl) (fun hg => (mvv (gs hg rfl)).does _) rfl ?_
        refine QL.gg (gwTT rfl rfl) (fun hg => (fa_box rfl).does _) rfl ?_
        refine QL.gg (gwTT rfl rfl) (fun hg => (fa_box (gs hg rfl)).does _) rfl ?_
        refine QL.gg (gwTT rfl rfl) (fun hg => ld_box (gs hg rfl) hb10 rfl) rfl ?_
        refine QL.gg (gwTT rfl rfl) (fun hg => (mvL rfl).does _) rfl ?_
        refine QL.gg (gwTT rfl rfl) (fun hg => (mvI rfl).does _) rfl ?_
        refine QL.gg (gwTT rfl rfl) (fun hg => (sub (gs hg rfl) rfl (by omega)).does _) rfl ?_
        refine QL.gg (gwTT rfl rfl) (fun hg => (ix (gs hg rfl) (gs hg rfl) (show ((j : Int) - 1) = ((j - 1 : Nat) : Int) by have := hg.2; omega) hj1).does _) rfl ?_
        refine QL.gg (gwTT rfl rfl) (fun hg => (fa_el hl.1 (gs hg rfl)).does _) rfl ?_
        refine QL.gg (gwTT rfl rfl) (fun hg => (fa_el hl.1 (gs hg rfl)).does _) rfl ?_
        refine QL.gg (gwTT rfl rfl) (fun hg => ld_el (gs hg rfl) hl H rfl hj1 rfl) rfl ?_
        refine QL.gg (gwTT rfl rfl) (fun hg => (sleq (gs hg rfl) (gs hg rfl)).does _) rfl ?_
        refine QL.gg (gwF rfl rfl) (fun hg => (pickAnd (gs hg rfl) (fun hn => gs ⟨hg, hn⟩ rfl)).does _) rfl ?_
        refine QL.r (pickOr rfl (fun hn => gs hn rfl)) rfl ?_
        refine QL.nil ?_; intro w9 hx; replace H := H.ext hx; replace hbt := hbt.ext hx; replace hb10 := hb10.ext hx; replace hm := hm.ext hx; replace hOc := hOc.ext hx
        refine WP.cond rfl (fun hc => ?_) (fun hc => ?_)
        · refine WP.regionS ?_
          refine RL.r (asgP rfl) rfl ?_
          refine RL.r (asgI rfl) rfl ?_
          refine RL.nil ?_
          refine WP.ret ?_
          have hE : loadE gen l = 1 := by
            unfold loadE
            rw [if_neg (by omega), if_neg (by assumption), if_neg]
            intro h
            obtain ⟨h1, h2⟩ := h j hj
            rcases hc with hc | ⟨hc, hc'⟩
            · exact hc h1
            · exact hc' (h2 (by omega))
          refine fin2_ret rfl rfl ⟨.inr ⟨by rw [hE]; decide, tupP hE.symm⟩, H⟩
        · refine WP.skip ?_
          refine WP.cutN (α := Seat) [55, 56, 57, 58, 59, 60, 61, 62, 63] (fun x => []) (fun x w' => Ext w0 w' ∧ Box w0.heap.size w' i 75 [.int .i64 gen, .bool robin, .map (some m)] ∧ Box w0.heap.size w' i10 31 (Lies.enc l[j]) ∧ x.st = l[j].st ∧ Own w0.heap.size w' 9 x.ta x.tc x.topics ∧ MpB Try.prog 9 w0.heap.size w' m (setB lb c l[j].name (Valued.val x)) (nextB lb c l[j].name) ∧ Owns w0.heap.size w' Hc) ?_ ?_
          · refine WP.any ?_
            intro w10 hx; replace H := H.ext hx; replace hbt := hbt.ext hx; replace hb10 := hb10.ext hx; replace hm := hm.ext hx; replace hOc := hOc.ext hx
            refine AL.p 0 (by kernel_rfl) rfl (mvP rfl) rfl ?_
            refine AL.p 1 (by kernel_rfl) rfl (nilck rfl) rfl ?_
            refine AL.p 2 (by kernel_rfl) rfl (fa_box rfl) rfl ?_
            refine AL.p 4 (by kernel_rfl) rfl (fa_box rfl) rfl ?_
            refine AL.p 5 (by kernel_rfl) rfl (fa_box rfl) rfl ?_
            refine AL.m 7 (by kernel_rfl) rfl (ldS_box rfl hb10 (Nat.le_of_ble_eq_true rfl) rfl) rfl ?_
            refine AL.all (rs := [3, 6, 8]) (by kernel_rfl) rfl ?_
            rintro i hi; simp only [List.mem_cons, List.not_mem_nil, or_false] at hi; rcases hi with rfl | rfl | rfl
            · refine ⟨_, rfl, ?_⟩
              refine RL.m (ld_box rfl hbt rfl) rfl ?_
              refine RL.nil ?_
              refine AL.all (rs := [6, 8]) (by kernel_rfl) rfl ?_
              rintro i hi; simp only [List.mem_cons, List.not_mem_nil, or_false] at hi; rcases hi with rfl | rfl
              · refine ⟨_, rfl, ?_⟩
                refine RL.m (ld_box rfl hb10 rfl) rfl ?_
                refine RL.nil ?_
                refine AL.o 8 (by kernel_rfl) rfl ?_
                -- call stagecoach/group.own (tmp 62)
                have hsz := H.size
                refine RL.call (gOwn _ l[j] (htp.ext H) (by omega)) rfl rfl ?_
                rintro v w11 ⟨⟨s2, rfl, hss, hO⟩, hx⟩
                replace H := H.ext hx; replace hbt := hbt.ext hx; replace hb10 := hb10.ext hx; replace hm := hm.ext hx; replace hOc := hOc.ext hx
                refine RL.nil ?_
                refine AL.o 9 (by kernel_rfl) rfl ?_
                refine RL.updM (k := l[j].name) (v := Valued.val s2) rfl hm rfl rfl ?_
                intro w12 hu hm'
                replace hbt := hbt.upd hu (fun e => hm.neb hbt e.symm)
                replace hb10 := hb10.upd hu (fun e => hm.neb hb10 e.symm)
                replace H := H.mp hu hm.old
                replace hOc := hOc.mp hm hu
                replace hO := hO.upd hu (fun k hk e => hm.nea hO (e ▸ hk))
                refine RL.nil ?_
                refine AL.nil (by kernel_rfl) ?_
                refine ⟨s2, Head.intro (by repeat (first | with_reducible exact AgreeOff.refl _ _ | with_reducible exact AgreeOff.mix _ _ _ | refine AgreeOff.look rfl ?_ | refine AgreeOff.mixs rfl ?_)) trivial, H, hbt, hb10, hss, hO.mono hsz, hm', hOc⟩
              · refine ⟨_, rfl, ?_⟩
                -- call stagecoach/group.own (tmp 62)
                have hsz := H.size
                refine RL.call (gOwn _ l[j] (htp.ext H) (by omega)) rfl rfl ?_
                rintro v w13 ⟨⟨s2, rfl, hss, hO⟩, hx⟩
                replace H := H.ext hx; replace hbt := hbt.ext hx; replace hb10 := hb10.ext hx; replace hm := hm.ext hx; replace hOc := hOc.ext hx
                refine RL.nil ?_
                refine AL.m 6 (by kernel_rfl) rfl (ld_box rfl hb10 rfl) rfl ?_
                refine AL.o 9 (by kernel_rfl) rfl ?_
                refine RL.updM (k := l[j].name) (v := Valued.val s2) rfl hm rfl rfl ?_
                intro w14 hu hm'
                replace hbt := hbt.upd hu (fun e => hm.neb hbt e.symm)
                replace hb10 := hb10.upd hu (fun e => hm.neb hb10 e.symm)
                replace H := H.mp hu hm.old
                replace hOc := hOc.mp hm hu
                replace hO := hO.upd hu (fun k hk e => hm.nea hO (e ▸ hk))
                refine RL.nil ?_
                refine AL.nil (by kernel_rfl) ?_
                refine ⟨s2, Head.intro (by repeat (first | with_reducible exact AgreeOff.refl _ _ | with_reducible exact AgreeOff.mix _ _ _ | refine AgreeOff.look rfl ?_ | refine AgreeOff.mixs rfl ?_)) trivial, H, hbt, hb10, hss, hO.mono hsz, hm', hOc⟩
            · refine ⟨_, rfl, ?_⟩
              refine RL.m (ld_box rfl hb10 rfl) rfl ?_
              refine RL.nil ?_
              refine AL.all (rs := [3, 8]) (by kernel_rfl) rfl ?_
              rintro i hi; simp only [List.mem_cons, List.not_mem_nil, or_false] at hi; rcases hi with rfl | rfl
              · refine ⟨_, rfl, ?_⟩
                refine RL.m (ld_box rfl hbt rfl) rfl ?_
                refine RL.nil ?_
                refine AL.o 8 (by kernel_rfl) rfl ?_
                -- call stagecoach/group.own (tmp 62)
                have hsz := H.size
                refine RL.call (gOwn _ l[j] (htp.ext H) (by omega)) rfl rfl ?_
                rintro v w15 ⟨⟨s2, rfl, hss, hO⟩, hx⟩
                replace H := H.ext hx; replace hbt := hbt.ext hx; replace hb10 := hb10.ext hx; replace hm := hm.ext hx; replace hOc := hOc.ext hx
                refine RL.nil ?_
                refine AL.o 9 (by kernel_rfl) rfl ?_
                refine RL.updM (k := l[j].name) (v := Valued.val s2) rfl hm rfl rfl ?_
                intro w16 hu hm'
                replace hbt := hbt.upd hu (fun e => hm.neb hbt e.symm)
                replace hb10 := hb10.upd hu (fun e => hm.neb hb10 e.symm)
                replace H := H.mp hu hm.old
                replace hOc := hOc.mp hm hu
                replace hO := hO.upd hu (fun k hk e => hm.nea hO (e ▸ hk))
                refine RL.nil ?_
                refine AL.nil (by kernel_rfl) ?_
                refine ⟨s2, Head.intro (by repeat (first | with_reducible exact AgreeOff.refl _ _ | with_reducible exact AgreeOff.mix _ _ _ | refine AgreeOff.look rfl ?_ | refine AgreeOff.mixs rfl ?_)) trivial, H, hbt, hb10, hss, hO.mono hsz, hm', hOc⟩
              · refine ⟨_, rfl, ?_⟩
                -- call stagecoach/group.own (tmp 62)
                have hsz := H.size
                refine RL.call (gOwn _ l[j] (htp.ext H) (by omega)) rfl rfl ?_
                rintro v w17 ⟨⟨s2, rfl, hss, hO⟩, hx⟩
                replace H := H.ext hx; replace hbt := hbt.ext hx; replace hb10 := hb10.ext hx; replace hm := hm.ext hx; replace hOc := hOc.ext hx
                refine RL.nil ?_
                refine AL.m 3 (by kernel_rfl) rfl (ld_box rfl hbt rfl) rfl ?_
                refine AL.o 9 (by kernel_rfl) rfl ?_
                refine RL.updM (k := l[j].name) (v := Valued.val s2) rfl hm rfl rfl ?_
                intro w18 hu hm'
                replace hbt := hbt.upd hu (fun e => hm.neb hbt e.symm)
                replace hb10 := hb10.upd hu (fun e => hm.neb hb10 e.symm)
                replace H := H.mp hu hm.old
                replace hOc := hOc.mp hm hu
                replace hO := hO.upd hu (fun k hk e => hm.nea hO (e ▸ hk))
                refine RL.nil ?_
                refine AL.nil (by kernel_rfl) ?_
                refine ⟨s2, Head.intro (by repeat (first | with_reducible exact AgreeOff.refl _ _ | with_reducible exact AgreeOff.mix _ _ _ | refine AgreeOff.look rfl ?_ | refine AgreeOff.mixs rfl ?_)) trivial, H, hbt, hb10, hss, hO.mono hsz, hm', hOc⟩
            · refine ⟨_, rfl, ?_⟩
              -- call stagecoach/group.own (tmp 62)
              have hsz := H.size
              refine RL.call (gOwn _ l[j] (htp.ext H) (by omega)) rfl rfl ?_
              rintro v w19 ⟨⟨s2, rfl, hss, hO⟩, hx⟩
              replace H := H.ext hx; replace hbt := hbt.ext hx; replace hb10 := hb10.ext hx; replace hm := hm.ext hx; replace hOc := hOc.ext hx
              refine RL.nil ?_
              refine AL.m 3 (by kernel_rfl) rfl (ld_box rfl hbt rfl) rfl ?_
              refine AL.m 6 (by kernel_rfl) rfl (ld_box rfl hb10 rfl) rfl ?_
              refine AL.o 9 (by kernel_rfl) rfl ?_
              refine RL.updM (k := l[j].name) (v := Valued.val s2) rfl hm rfl rfl ?_
              intro w20 hu hm'
              replace hbt := hbt.upd hu (fun e => hm.neb hbt e.symm)
              replace hb10 := hb10.upd hu (fun e => hm.neb hb10 e.symm)
              replace H := H.mp hu hm.old
              replace hOc := hOc.mp hm hu
              replace hO := hO.upd hu (fun k hk e => hm.nea hO (e ▸ hk))
              refine RL.nil ?_
              refine AL.nil (by kernel_rfl) ?_
              refine ⟨s2, Head.intro (by repeat (first | with_reducible exact AgreeOff.refl _ _ | with_reducible exact AgreeOff.mix _ _ _ | refine AgreeOff.look rfl ?_ | refine AgreeOff.mixs rfl ?_)) trivial, H, hbt, hb10, hss, hO.mono hsz, hm', hOc⟩
          rintro s2 jc w21 ⟨H, hbt, hb10, hss, hO, hm9, hOc⟩
          refine WP.region ?_
          refine RL.r (add rfl rfl (by omega)) rfl ?_
          refine RL.r (mvI rfl) rfl ?_
          refine RL.nil ?_
          have hgood : mayS l[j].st ∧ (0 < j → slt l[j - 1].name l[j].name) := ⟨Classical.byContradiction fun h => hc (.inl h), fun h0 => Classical.byContradiction fun h => hc (.inr ⟨by omega, h⟩)⟩
          have hok2 : ∀ (i : Nat) (h : i < l.length), i < j + 1 → mayS l[i].st ∧ (0 < i → slt l[i - 1].name l[i].name) := by
            intro i h hi
            by_cases hij : i < j
            · exact hok i h hij
            · obtain rfl : i = j := by omega
              exact hgood
          have hokg := ok_take (rb := robin) hgen hl8 hok2
          have hk2 : s2.name = l[j].name := congrArg St.name hss
          refine ⟨k - 1, by omega, j + 1, by omega, Head.intro (by repeat (first | with_reducible exact AgreeOff.mix _ _ _ | refine AgreeOff.look rfl ?_ | refine AgreeOff.mixs rfl ?_)) ⟨rfl, trivial⟩, H, hbt, ⟨hbt, ⟨ePut Hc s2, _, _, hm9, by rw [← hk2]; exact rep_put hr hnod _ _, st_push hj hst hss hokg.srt, hOc.put hO⟩, hokg⟩, hok2⟩
      · refine WP.exit ?_
        refine WP.regionS ?_
        refine RL.r (mvP rfl) rfl ?_
        refine RL.r (asgP rfl) rfl ?_
        refine RL.r (asgI rfl) rfl ?_
        refine RL.nil ?_
        refine WP.ret ?_
        have hall : l.take j = l := List.take_of_length_le (by omega)
        rw [hall] at hT
        refine fin2_ret rfl rfl ⟨.inl ⟨?_, i, m, rfl, hT⟩, H⟩
        unfold loadE
        rw [if_neg (by omega), if_neg (by assumption), if_pos (show loadOk l from fun i h => hok i h (by omega))]
end Go.Proofs.Ytlkpgeopcdhgjaa
