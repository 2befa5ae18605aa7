/-
  PRange: walks and laws, written by gen/gen.py out of gen/thy/PRange.py.
-/
import Derived.Test.YtlkpgeopcdhgjaaPlan2
set_option linter.unusedVariables false
namespace Go.Proofs.Ytlkpgeopcdhgjaa
open Go Go.Eng Go.RowKit
theorem share_yes {a K : Nat} {n : Int} (hn : 0 ≤ n) (h : (a : Int) < n % (K : Int)) : n / (K : Int) + 1 = ((fromK (a + 1) n.toNat K - fromK a n.toNat K : Nat) : Int) := by
  obtain ⟨k, rfl⟩ := Int.eq_ofNat_of_zero_le hn
  have h' : a < k % K := by omega
  rw [fromK_succ, if_pos (by simpa using h')]
  simp only [Int.toNat_natCast, Nat.add_sub_cancel_left]
  simp
theorem share_no {a K : Nat} {n : Int} (hn : 0 ≤ n) (h : ¬ (a : Int) < n % (K : Int)) : n / (K : Int) = ((fromK (a + 1) n.toNat K - fromK a n.toNat K : Nat) : Int) := by
  obtain ⟨k, rfl⟩ := Int.eq_ofNat_of_zero_le hn
  have h' : ¬ a < k % K := by omega
  rw [fromK_succ, if_neg (by simpa using h')]
  simp only [Int.toNat_natCast, Nat.add_sub_cancel_left]
  simp
theorem tupSl {a : Option Addr} {n n' c : Nat} {x y : Int} (h : n = n') (hx : x = y) : Value.tuple #[.slice a n c, .int .i64 x] = Value.tuple #[.slice a n' c, .int .i64 y] := by rw [h, hx]
theorem gridO_nil (B : Nat) (w : World) : GridO (α := Part) 60 66 B w none 0 [] := ⟨Own.nil _ _ _, fun i h => by simp at h, fun i j h => by simp at h⟩
theorem _root_.Go.Eng.GridO.gr {B : Nat} {w : World} {a : Option Addr} {c : Nat} {g : List (Rw Part)} (h : GridO 60 66 B w a c g) : Gr w a g := ⟨h.head.sl, fun r hr => by
  obtain ⟨i, hi, rfl⟩ := List.getElem_of_mem hr
  exact (h.row i hi).sl⟩
theorem rows_length {g : List (Rw Part)} {r : List (List Part)} (h : rows g = r) : g.length = r.length := by rw [← h]; simp
theorem rows_get {g : List (Rw Part)} {r : List (List Part)} (h : rows g = r) {i : Nat} (hi : i < g.length) (hr : i < r.length) : g[i].l = r[i] := by
  subst h; simp
set_option maxRecDepth 20000 in
set_option maxHeartbeats 1600000 in
theorem pRange (w0 : World) (a b : Option Addr) (c d : Nat) (l : List Topic) (m : List Mem) (hl : Sl w0 a l) (hm : Sl w0 b m) (hts : ∀ x ∈ m, Sl w0 x.ta x.topics ∧ x.topics.length ≤ 1000) :
    Ct Try.prog 52 #[.slice a l.length c, .slice b m.length d] w0 fun v w' => (∃ q cq g, v = .tuple #[.slice q g.length cq, .int .i64 (checkE l m)] ∧ GridO 60 66 w0.heap.size w' q cq g ∧ rows g = if checkE l m = 0 then rangeG l m else []) ∧ Ext w0 w' := by
  refine Ct.intro2 Try.func52 Try.ntmps52 rfl rfl (by decide) rfl ?_
  have H : Ext w0 w0 := Ext.refl w0
  refine WP.regionS ?_
  refine RL.r (asgL rfl) rfl ?_
  refine RL.r (asgI rfl) rfl ?_
  refine RL.nil ?_
  refine WP.seq ?_
  refine WP.regionS ?_
  refine RL.r (mvL rfl) rfl ?_
  refine RL.r (mvL rfl) rfl ?_
  -- call stagecoach/assign.Check (tmp 16) (tmp 17)
  refine RL.call (pCheck _ _ _ _ _ l m hl hm) rfl rfl ?_
  rintro _ w1 ⟨rfl, hx⟩
  replace H := H.ext hx
  refine RL.r (asgI rfl) rfl ?_
  refine RL.nil ?_
  refine WP.regionS ?_
  refine RL.r (mvI rfl) rfl ?_
  refine RL.r (neq rfl rfl) rfl ?_
  refine RL.nil ?_
  refine WP.cond rfl (fun hc => ?_) (fun hc => ?_)
  · refine WP.regionS ?_
    refine RL.r (mvI rfl) rfl ?_
    refine RL.r (asgL rfl) rfl ?_
    refine RL.r (asgI rfl) rfl ?_
    refine RL.nil ?_
    refine WP.ret ?_
    refine fin2_ret rfl rfl ⟨⟨none, 0, [], rfl, gridO_nil _ _, by rw [if_neg hc]; rfl⟩, H⟩
  · refine WP.skip ?_
    refine WP.regionS ?_
    refine RL.r (mvL rfl) rfl ?_
    refine RL.r (len_sl rfl) rfl ?_
    have hck := Classical.not_not.1 hc
    obtain ⟨hl8, hlok, hm8, hmok⟩ := check_ok hck
    refine RL.makeSlice (⟨none, 0, []⟩ : Rw Part) w0.heap.size H.size rfl rfl rfl rfl (by omega) (by simp only [maxLen]; omega) rfl ?_
    intro w2 i24 hi24 hx hb24
    replace H := H.ext hx; clear hx
    refine RL.r (asgL rfl) rfl ?_
    refine RL.nil ?_
    refine WP.seq ?_
    refine WP.regionS ?_
    refine RL.r (mvL rfl) rfl ?_
    refine RL.r (len_sl rfl) rfl ?_
    refine RL.r (mvI rfl) rfl ?_
    refine RL.nil ?_
    refine WP.block ?_
    refine WP.loop (fun k e' w' => ∃ j : Nat, ∃ g : List (Rw Part),  j + k = l.length ∧ Head [9, 10, 11, 12, 13, 14, 15, 27, 28, 29, 30, 31, 32, 33, 34, 35, 36, 37, 38, 39, 40, 41, 42, 43, 44, 45, 46, 47, 48, 49, 50, 51, 52, 53, 54, 55, 56, 57, 58, 59, 60, 61, 62, 63, 64, 65, 66, 67, 68, 69, 70, 71, 72, 73, 74, 75, 76, 77, 78, 79, 80, 81, 82, 83, 84, 85, 86, 87, 88, 89] _ [(27, .int .i64 (j : Int))] e' ∧ Ext w0 w' ∧ GridO 60 66 w0.heap.size w' (some ⟨i24, 0, none⟩) m.length g ∧ rows g = gridAt m l j) (l.length)
      ⟨0, _, by omega, Head.intro (AgreeOff.refl _ _) ⟨rfl, trivial⟩, H, GridO.nils hb24, by rw [gridAt_zero]; simp [rows]⟩ ?_
    clear H
    rintro k e w3 ⟨j, g, hjk, ⟨jk, rfl⟩, H, hG, hg⟩
    have hgl : g.length = m.length := by rw [rows_length hg]; simp [gridAt]
    refine WP.regionS ?_
    refine RL.r (lss rfl rfl) rfl ?_
    refine RL.nil ?_
    refine WP.seq ?_
    refine WP.cond rfl (fun hc => ?_) (fun hc => ?_)
    · refine WP.skip ?_
      refine WP.seq ?_
      refine WP.block ?_
      refine WP.regionS ?_
      have hj : j < l.length := by omega
      obtain ⟨q, rfl⟩ := hl.isAddr (by decide) hj
      have htj := hlok j hj
      have htn : 1 ≤ l[j].n ∧ l[j].n ≤ 8 := htj.1.2
      refine RL.r (ix rfl rfl rfl (by omega)) rfl ?_
      refine RL.m (ldS_el rfl hl H rfl rfl (by omega)) rfl ?_
      refine RL.alloc w0.heap.size H.size rfl rfl ?_
      intro w4 i9 hi9 hx hb9
      refine RL.storeS rfl hb9 rfl rfl rfl rfl ?_
      intro w5 hu hb9
      replace hx := hx.box hu (Nat.le_of_eq hi9.symm)
      replace H := H.ext hx; replace hG := hG.ext hx; clear hx hu
      refine RL.nil ?_
      refine WP.regionS ?_
      refine RL.r (asgL rfl) rfl ?_
      refine RL.nil ?_
      refine WP.seq ?_
      refine WP.regionS ?_
      refine RL.r (mvL rfl) rfl ?_
      refine RL.r (len_sl rfl) rfl ?_
      refine RL.r (mvI rfl) rfl ?_
      refine RL.nil ?_
      refine WP.block ?_
      refine WP.loop (fun k1 e' w' => ∃ j1 : Nat, ∃ (a10 : Option Addr) (c10 : Nat),  j1 + k1 = m.length ∧ Head [10, 11, 33, 34, 35, 36, 37, 38, 39, 40, 41, 42, 43, 44, 45, 46, 47] _ [(10, .slice a10 (wantL m l[j].name j1).length c10), (33, .int .i64 (j1 : Int))] e' ∧ Ext w0 w' ∧ Box w0.heap.size w' i9 58 (Lies.enc l[j]) ∧ Own w0.heap.size w' 3 a10 c10 (wantL m l[j].name j1) ∧ GridO 60 66 w0.heap.size w' (some ⟨i24, 0, none⟩) m.length g) (m.length)
        ⟨0, none, 0, by omega, Head.intro (AgreeOff.refl _ _) ⟨rfl, rfl, trivial⟩, H, hb9, Own.nil _ _ _, hG⟩ ?_
      clear H hb9 hG
      rintro k1 e w6 ⟨j1, a10, c10, hjk1, ⟨jk1, rfl⟩, H, hb9, hW, hG⟩
      have hwl8 : (wantL m l[j].name j1).length ≤ 8 := by rw [wantL_length _ _ _ (by omega)]; exact Nat.le_trans (ahead_le _ _ _) (by omega)
      refine WP.regionS ?_
      refine RL.r (lss rfl rfl) rfl ?_
      refine RL.nil ?_
      refine WP.seq ?_
      refine WP.cond rfl (fun hc => ?_) (fun hc => ?_)
      · refine WP.skip ?_
        refine WP.seq ?_
        refine WP.block ?_
        refine WP.regionS ?_
        refine RL.r (mvI rfl) rfl ?_
        refine RL.r (asgI rfl) rfl ?_
        refine RL.nil ?_
        refine WP.seq ?_
        refine WP.draw (by kernel_rfl) ?_
        refine QL.r (mvL rfl) rfl ?_
        refine QL.r (mvI rfl) rfl ?_
        have hj1 : j1 < m.length := by omega
        obtain ⟨p, rfl⟩ := hm.isAddr (by decide) hj1
        have hC : ∀ w', Ext w6 w' → Ct Try.prog 66 #[.agg (Lies.enc m[j1]).toArray, .string l[j].name] w' fun u w'' => u = .bool (decide (m[j1].has l[j].name)) ∧ Ext w' w'' := fun w' hw' => pWants w' m[j1] l[j].name ((hts _ (List.getElem_mem hj1)).1.ext (H.ext hw')) (hts _ (List.getElem_mem hj1)).2
        refine QL.r (ix rfl rfl rfl (by omega)) rfl ?_
        refine QL.m (ldS_el rfl hm H rfl rfl (by omega)) rfl ?_
        refine QL.r (fa_box rfl) rfl ?_
        refine QL.m (ld_box rfl hb9 rfl) rfl ?_
        -- call stagecoach/assign.Wants (tmp 39) (tmp 41)
        refine QL.call (hC) rfl rfl ?_
        refine QL.nil ?_; intro w8 hx; replace H := H.ext hx; replace hb9 := hb9.ext hx; replace hW := hW.ext hx; replace hG := hG.ext hx
        refine WP.cond rfl (fun hc => ?_) (fun hc => ?_)
        · refine WP.region ?_
          refine RL.r (mvL rfl) rfl ?_
          refine RL.r (mvI rfl) rfl ?_
          refine RL.buildSlice w0.heap.size H.size rfl rfl rfl rfl rfl ?_
          intro w9 i45 hi45 hx hb45
          replace H := H.ext hx; replace hb9 := hb9.ext hx; replace hW := hW.ext hx; replace hG := hG.ext hx; clear hx
          refine RL.appendS rfl hW H.size rfl (show Sl _ _ [((j1 : Nat) : Int)] from Box.sl1 hb45) rfl rfl (by decide) rfl cell1 (by omega) (by simp only [maxLen]; omega) rfl ?_
          intro w10 a46 c46 hu hb46 hfr46
          replace hb9 := hb9.upd hu (fun h => hW.box_apart hb9 (by decide) h)
          replace H := Ext.own H hW hu
          replace hG := hG.upd hu (fun b hb h => hG.head.apart hW (by decide) hb h) (fun i hi b hb h => (hG.row i hi).apart hW (by decide) hb h); clear hu
          refine RL.r (asgL rfl) rfl ?_
          refine RL.nil ?_
          refine WP.region ?_
          refine RL.r (add rfl rfl (by omega)) rfl ?_
          refine RL.r (mvI rfl) rfl ?_
          refine RL.nil ?_
          refine ⟨k1 - 1, by omega, j1 + 1, _, _, by omega, Head.intro (by repeat (first | with_reducible exact AgreeOff.mix _ _ _ | refine AgreeOff.look rfl ?_ | refine AgreeOff.mixs rfl ?_)) ⟨slE (by rw [wantL_yes ((wantsAt_iff hj1).2 hc)]), rfl, trivial⟩, H, hb9, by rw [wantL_yes ((wantsAt_iff hj1).2 hc)]; exact hb46, hG⟩
        · refine WP.skip ?_
          refine WP.region ?_
          refine RL.r (add rfl rfl (by omega)) rfl ?_
          refine RL.r (mvI rfl) rfl ?_
          refine RL.nil ?_
          refine ⟨k1 - 1, by omega, j1 + 1, _, _, by omega, Head.intro (by repeat (first | with_reducible exact AgreeOff.mix _ _ _ | refine AgreeOff.look rfl ?_ | refine AgreeOff.mixs rfl ?_)) ⟨slE (by rw [wantL_no (fun h => hc ((wantsAt_iff hj1).1 h))]), rfl, trivial⟩, H, hb9, by rw [wantL_no (fun h => hc ((wantsAt_iff hj1).1 h))]; exact hW, hG⟩
      · refine WP.exit ?_
        refine WP.regionS ?_
        refine RL.r (asgI rfl) rfl ?_
        refine RL.nil ?_
        refine WP.regionS ?_
        refine RL.r (mvL rfl) rfl ?_
        refine RL.r (len_sl rfl) rfl ?_
        refine RL.r (mvI rfl) rfl ?_
        refine RL.nil ?_
        refine WP.block ?_
        obtain rfl : j1 = m.length := by omega
        refine WP.loop (fun k2 e' w' => ∃ j2 : Nat, ∃ g : List (Rw Part),  j2 + k2 = (wantL m l[j].name m.length).length ∧ Head [12, 13, 14, 15, 50, 51, 52, 53, 54, 55, 56, 57, 58, 59, 60, 61, 62, 63, 64, 65, 66, 67, 68, 69, 70, 71, 72, 73, 74, 75, 76, 77, 78, 79, 80, 81, 82, 83, 84, 85, 86, 87, 88] _ [(12, .int .i64 (((fromK j2 l[j].n.toNat (ahead m m.length l[j].name)) : Nat) : Int)), (50, .int .i64 (j2 : Int))] e' ∧ Ext w0 w' ∧ Box w0.heap.size w' i9 58 (Lies.enc l[j]) ∧ Own w0.heap.size w' 3 a10 c10 (wantL m l[j].name m.length) ∧ GridO 60 66 w0.heap.size w' (some ⟨i24, 0, none⟩) m.length g ∧ rows g = gridAt2 m l l[j] j j2) ((wantL m l[j].name m.length).length)
          ⟨0, g, by omega, Head.intro (AgreeOff.refl _ _) ⟨by rw [fromK_zero]; rfl, rfl, trivial⟩, H, hb9, hW, hG, by rw [gridAt2_zero]; exact hg⟩ ?_
        clear H hb9 hW hG
        rintro k2 e w11 ⟨j2, g2, hjk2, ⟨jk2, rfl⟩, H, hb9, hW, hG, hg2⟩
        have hwl := wantL_length m l[j].name m.length (Nat.le_refl _)
        have hg2l : g2.length = m.length := by rw [rows_length hg2]; simp [gridAt2]
        refine WP.regionS ?_
        refine RL.r (lss rfl rfl) rfl ?_
        refine RL.nil ?_
        refine WP.seq ?_
        refine WP.cond rfl (fun hc => ?_) (fun hc => ?_)
        · refine WP.skip ?_
          refine WP.seq ?_
          refine WP.block ?_
          refine WP.regionS ?_
          refine RL.r (mvI rfl) rfl ?_
          have hj2 : j2 < (wantL m l[j].name m.length).length := by omega
          obtain ⟨i, hi, hWi, hwi, hai⟩ := wantL_get m l[j].name m.length (Nat.le_refl _) j2 hj2
          obtain ⟨r, rfl⟩ := hW.sl.isAddr (by decide) hj2
          refine RL.r (ix rfl rfl rfl hj2) rfl ?_
          refine RL.m (ld_e0 rfl hW.sl (Ext.refl _) rfl hj2 (by rw [hWi]; rfl)) rfl ?_
          refine RL.r (asgI rfl) rfl ?_
          refine RL.r (asgI rfl) rfl ?_
          refine RL.nil ?_
          refine WP.regionS ?_
          refine RL.r (fa_box rfl) rfl ?_
          refine RL.m (ld_box rfl hb9 rfl) rfl ?_
          refine RL.r (mvL rfl) rfl ?_
          refine RL.r (len_sl rfl) rfl ?_
          refine RL.r (quo rfl rfl (by omega)) rfl ?_
          refine RL.r (asgI rfl) rfl ?_
          refine RL.nil ?_
          refine WP.seq ?_
          refine WP.regionS ?_
          refine RL.r (mvI rfl) rfl ?_
          refine RL.r (fa_box rfl) rfl ?_
          refine RL.m (ld_box rfl hb9 rfl) rfl ?_
          refine RL.r (mvL rfl) rfl ?_
          refine RL.r (len_sl rfl) rfl ?_
          refine RL.r (rem rfl rfl (by omega)) rfl ?_
          refine RL.r (lss rfl rfl) rfl ?_
          refine RL.nil ?_
          have hdv : 0 ≤ l[j].n / (((wantL m l[j].name m.length).length : Nat) : Int) ∧ l[j].n / (((wantL m l[j].name m.length).length : Nat) : Int) ≤ l[j].n := ⟨Int.ediv_nonneg (by omega) (by omega), Int.ediv_le_self _ (by omega)⟩
          refine WP.cut (α := Int) [15, 67, 68] (fun x => [(15, .int .i64 x)]) (fun x w' => Ext w0 w' ∧ Box w0.heap.size w' i9 58 (Lies.enc l[j]) ∧ Own w0.heap.size w' 3 (some r) c10 (wantL m l[j].name m.length) ∧ GridO 60 66 w0.heap.size w' (some ⟨i24, 0, none⟩) m.length g2 ∧ x = ((fromK (j2 + 1) l[j].n.toNat (ahead m m.length l[j].name) - fromK j2 l[j].n.toNat (ahead m m.length l[j].name) : Nat) : Int)) ?_ ?_
          · refine WP.cond rfl (fun hc => ?_) (fun hc => ?_)
            · refine WP.region ?_
              refine RL.r (mvI rfl) rfl ?_
              refine RL.r (add rfl rfl (by omega)) rfl ?_
              refine RL.r (asgI rfl) rfl ?_
              refine RL.nil ?_
              refine ⟨_, Head.intro (by repeat (first | with_reducible exact AgreeOff.refl _ _ | with_reducible exact AgreeOff.mix _ _ _ | refine AgreeOff.look rfl ?_ | refine AgreeOff.mixs rfl ?_)) ⟨rfl, trivial⟩, H, hb9, hW, hG, by rw [← hwl]; exact share_yes (by omega) hc⟩
            · refine WP.skip ?_
              refine ⟨_, Head.intro (by repeat (first | with_reducible exact AgreeOff.refl _ _ | with_reducible exact AgreeOff.mix _ _ _ | refine AgreeOff.look rfl ?_ | refine AgreeOff.mixs rfl ?_)) ⟨rfl, trivial⟩, H, hb9, hW, hG, by rw [← hwl]; exact share_no (by omega) hc⟩
          rintro x jc w12 ⟨H, hb9, hW, hG, hxe⟩
          refine WP.regionS ?_
          refine RL.r (mvI rfl) rfl ?_
          refine RL.r (mvI rfl) rfl ?_
          refine RL.nil ?_
          refine WP.block ?_
          have hrow : (rows g2).set i ((l.take j).flatMap (part1 m i)) = rows g2 := by
            rw [hg2]
            conv => lhs; rw [← gridAt2_row (l := l) (j := j) hi hai (by simp [gridAt2]; exact hi)]
            exact List.set_getElem_self _
          have hN8 : fromK (j2 + 1) l[j].n.toNat (ahead m m.length l[j].name) ≤ l[j].n.toNat := by rw [← hai]; exact fromK_top ⟨hi, hwi⟩ _
          have hmo := fromK_mono l[j].n.toNat (ahead m m.length l[j].name) j2 (j2 + 1) (Nat.le_succ j2)
          have hrl := row_len m i hl8 hlok j
          refine WP.loop (fun k3 e' w' => ∃ j3 : Nat, ∃ g : List (Rw Part),  j3 + k3 = fromK (j2 + 1) l[j].n.toNat (ahead m m.length l[j].name) - fromK j2 l[j].n.toNat (ahead m m.length l[j].name) ∧ Head [12, 70, 71, 72, 73, 74, 75, 76, 77, 78, 79, 80, 81, 82, 83, 84, 85, 86, 87] _ [(12, .int .i64 (addS (((fromK j2 l[j].n.toNat (ahead m m.length l[j].name)) : Nat) : Int) j3)), (70, .int .i64 (j3 : Int))] e' ∧ Ext w0 w' ∧ Box w0.heap.size w' i9 58 (Lies.enc l[j]) ∧ Own w0.heap.size w' 3 (some r) c10 (wantL m l[j].name m.length) ∧ GridO 60 66 w0.heap.size w' (some ⟨i24, 0, none⟩) m.length g ∧ rows g = (rows g2).set i (catS ((l.take j).flatMap (part1 m i)) l[j].name (fromK j2 l[j].n.toNat (ahead m m.length l[j].name)) j3)) (fromK (j2 + 1) l[j].n.toNat (ahead m m.length l[j].name) - fromK j2 l[j].n.toNat (ahead m m.length l[j].name))
            ⟨0, g2, by omega, Head.intro (AgreeOff.refl _ _) ⟨rfl, rfl, trivial⟩, H, hb9, hW, hG, hrow.symm⟩ ?_
          clear H hb9 hW hG
          rintro k3 e w13 ⟨j3, g3, hjk3, ⟨jk3, rfl⟩, H, hb9, hW, hG, hg3⟩
          have hadd := addS_eq (((fromK j2 l[j].n.toNat (ahead m m.length l[j].name)) : Nat) : Int) j3
          have hadd1 := addS_eq (((fromK j2 l[j].n.toNat (ahead m m.length l[j].name)) : Nat) : Int) (j3 + 1)
          have hg3l : g3.length = m.length := by rw [rows_length hg3]; simp [hg2l]
          have hi3 : i < g3.length := by omega
          have hgi : g3[i].l = catS ((l.take j).flatMap (part1 m i)) l[j].name (fromK j2 l[j].n.toNat (ahead m m.length l[j].name)) j3 := by rw [rows_get hg3 hi3 (by simp [hg2l]; exact hi)]; simp
          have hgil : g3[i].l.length ≤ 64 + j3 := by rw [hgi, catS_eq, List.length_append, strip_length]; omega
          refine WP.regionS ?_
          refine RL.r (lss rfl rfl) rfl ?_
          refine RL.nil ?_
          refine WP.seq ?_
          refine WP.cond rfl (fun hc => ?_) (fun hc => ?_)
          · refine WP.skip ?_
            refine WP.seq ?_
            refine WP.block ?_
            refine WP.seq ?_
            refine WP.any ?_
            intro w14 hx; replace H := H.ext hx; replace hb9 := hb9.ext hx; replace hW := hW.ext hx; replace hG := hG.ext hx
            refine AL.p 0 (by kernel_rfl) rfl (mvL rfl) rfl ?_
            refine AL.p 1 (by kernel_rfl) rfl (mvI rfl) rfl ?_
            refine AL.p 2 (by kernel_rfl) rfl (mvL rfl) rfl ?_
            refine AL.p 3 (by kernel_rfl) rfl (mvI rfl) rfl ?_
            refine AL.p 4 (by kernel_rfl) rfl (ix rfl rfl rfl (by rw [List.length_replicate]; exact hi)) rfl ?_
            refine AL.p 6 (by kernel_rfl) rfl (fa_box rfl) rfl ?_
            refine AL.p 8 (by kernel_rfl) rfl (mvI rfl) rfl ?_
            refine AL.m 5 (by kernel_rfl) rfl (ld_e0 rfl hG.head.sl (Ext.refl _) rfl hi3 rfl) rfl ?_
            refine AL.m 7 (by kernel_rfl) rfl (ld_box rfl hb9 rfl) rfl ?_
            refine AL.p 9 (by kernel_rfl) rfl (bld rfl rfl) rfl ?_
            refine AL.o 10 (by kernel_rfl) rfl ?_
            refine RL.buildSlice w0.heap.size H.size rfl rfl rfl rfl rfl ?_
            intro w15 i82 hi82 hx hb82
            replace H := H.ext hx; replace hb9 := hb9.ext hx; replace hW := hW.ext hx; replace hG := hG.ext hx; clear hx
            refine RL.nil ?_
            refine AL.o 11 (by kernel_rfl) rfl ?_
            refine RL.appendS rfl (hG.row i hi3) H.size rfl (show Sl _ _ [(⟨l[j].name, addS _ j3⟩ : Part)] from Box.sl1 hb82) rfl rfl (by decide) rfl cell1 (by omega) (by simp only [maxLen]; omega) rfl ?_
            intro w16 a83 c83 hu hb83 hfr83
            have hr3 := hG.row i hi3
            have hh1 := hG.head1 (by decide) hi3 hu
            have hu1 := hu
            replace hW := hW.upd hu (fun b hb h => hW.apart hr3 (by decide) hb h)
            replace hb9 := hb9.upd hu (fun h => hr3.box_apart hb9 (by decide) h)
            replace H := Ext.own H hr3 hu; clear hu
            refine RL.nil ?_
            refine AL.p 12 (by kernel_rfl) rfl (ix rfl rfl rfl (by rw [List.length_replicate]; exact hi)) rfl ?_
            refine AL.o 13 (by kernel_rfl) rfl ?_
            refine RL.setOwn (u := (⟨a83, c83, g3[i].l ++ [(⟨l[j].name, addS (((fromK j2 l[j].n.toNat (ahead m m.length l[j].name)) : Nat) : Int) j3⟩ : Part)]⟩ : Rw Part)) (i := i) (off := 0) (v := .slice a83 (g3[i].l ++ [(⟨l[j].name, addS (((fromK j2 l[j].n.toNat (ahead m m.length l[j].name)) : Nat) : Int) j3⟩ : Part)]).length c83) (vs := [.slice a83 (g3[i].l ++ [(⟨l[j].name, addS (((fromK j2 l[j].n.toNat (ahead m m.length l[j].name)) : Nat) : Int) j3⟩ : Part)]).length c83]) rfl hh1 hi3 rfl rfl rfl (Nat.le_of_ble_eq_true rfl) rfl (fun v hv => by obtain rfl := List.mem_singleton.1 hv; rfl) ?_
            intro w99 hu2 hh2
            replace hG := hG.grow (by decide) hi3 hu1 hb83 hfr83 hu2 hh2
            replace hW := hW.upd hu2 (fun b hb h => hW.apart hh1 (by decide) hb h)
            replace hb9 := hb9.upd hu2 (fun h => hh1.box_apart hb9 (by decide) h)
            replace H := Ext.own H hh1 hu2
            refine RL.nil ?_
            refine AL.nil (by kernel_rfl) ?_
            refine WP.region ?_
            refine RL.r (mvI rfl) rfl ?_
            refine RL.r (add rfl rfl (by omega)) rfl ?_
            refine RL.r (asgI rfl) rfl ?_
            refine RL.nil ?_
            refine WP.region ?_
            refine RL.r (add rfl rfl (by omega)) rfl ?_
            refine RL.r (mvI rfl) rfl ?_
            refine RL.nil ?_
            refine ⟨k3 - 1, by omega, j3 + 1, _, by omega, Head.intro (by repeat (first | with_reducible exact AgreeOff.mix _ _ _ | refine AgreeOff.look rfl ?_ | refine AgreeOff.mixs rfl ?_)) ⟨intE (by omega), rfl, trivial⟩, H, hb9, hW, hG, ?_⟩
            unfold rows at hg3 ⊢
            rw [List.map_set, hg3, List.set_set, hgi, catS_succ, hadd, Int.natCast_add]
          · refine WP.exit ?_
            refine WP.region ?_
            refine RL.r (add rfl rfl (by omega)) rfl ?_
            refine RL.r (mvI rfl) rfl ?_
            refine RL.nil ?_
            refine ⟨k2 - 1, by omega, j2 + 1, _, by omega, Head.intro (by repeat (first | with_reducible exact AgreeOff.mix _ _ _ | refine AgreeOff.look rfl ?_ | refine AgreeOff.mixs rfl ?_)) ⟨intE (by omega), rfl, trivial⟩, H, hb9, hW, hG, ?_⟩
            rw [hg3, hg2, ← gridAt2_step hi hwi hai, catS_eq, part1_yes ⟨hi, hwi⟩, hai, show j3 = fromK (j2 + 1) l[j].n.toNat (ahead m m.length l[j].name) - fromK j2 l[j].n.toNat (ahead m m.length l[j].name) by omega]
        · refine WP.exit ?_
          refine WP.region ?_
          refine RL.r (add rfl rfl (by omega)) rfl ?_
          refine RL.r (mvI rfl) rfl ?_
          refine RL.nil ?_
          refine ⟨k - 1, by omega, j + 1, _, by omega, Head.intro (by repeat (first | with_reducible exact AgreeOff.mix _ _ _ | refine AgreeOff.look rfl ?_ | refine AgreeOff.mixs rfl ?_)) ⟨rfl, trivial⟩, H, hG, ?_⟩
          rw [hg2, ← gridAt2_full hj, show j2 = ahead m m.length l[j].name by omega]
    · refine WP.exit ?_
      refine WP.regionS ?_
      refine RL.r (mvL rfl) rfl ?_
      refine RL.r (asgL rfl) rfl ?_
      refine RL.r (asgI rfl) rfl ?_
      refine RL.nil ?_
      refine WP.ret ?_
      refine fin2_ret rfl rfl ⟨⟨_, _, g, tupSl (by rw [hgl, List.length_replicate]) hck.symm, hG, ?_⟩, H⟩
      rw [if_pos hck, hg, gridAt_all _ _ _ (by omega)]
end Go.Proofs.Ytlkpgeopcdhgjaa
