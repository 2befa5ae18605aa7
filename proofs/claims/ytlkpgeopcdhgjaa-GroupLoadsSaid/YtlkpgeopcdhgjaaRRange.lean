/-
  RRange: walks and laws, written by gen/gen.py out of gen/thy/RRange.py.
-/
import Derived.Test.YtlkpgeopcdhgjaaPlan
set_option linter.unusedVariables false
namespace Go.Proofs.Ytlkpgeopcdhgjaa
open Go Go.Eng Go.RowKit
theorem slE {a : Option Addr} {m n c : Nat} (h : m = n) : Value.slice a m c = Value.slice a n c := by rw [h]
theorem tup2E {v : Value} {x y : Int} (h : x = y) : Value.tuple #[v, .int .i64 x] = Value.tuple #[v, .int .i64 y] := by rw [h]
set_option maxRecDepth 20000 in
set_option maxHeartbeats 800000 in
theorem rRange (w0 : World) (a b : Option Addr) (c d : Nat) (l : List Topic) (m : List Mem) (hl : Sl w0 a l) (hm : Sl w0 b m) (hsz : ∀ x ∈ m, x.name.size ≤ 40) (hts : ∀ x ∈ m, Sl w0 x.ta x.topics ∧ x.topics.length ≤ 1000) :
    Ct Try.prog 62 #[.slice a l.length c, .slice b m.length d] w0 fun v w' => (∃ q cq g, v = .tuple #[.slice q g.length cq, .int .i64 (checkE l m)] ∧ Gr w' q g ∧ rows g = if checkE l m = 0 then rangeG l m else []) ∧ Ext w0 w' := by
  refine Ct.intro2 Try.func62 Try.ntmps62 rfl rfl (by decide) rfl ?_
  have H : Ext w0 w0 := Ext.refl w0
  refine WP.regionS ?_
  refine RL.r (asgL rfl) rfl ?_
  refine RL.r (asgI rfl) rfl ?_
  refine RL.nil ?_
  refine WP.regionS ?_
  refine RL.r (mvL rfl) rfl ?_
  refine RL.r (mvL rfl) rfl ?_
  -- call stagecoach/stagecoachref10.Check (tmp 17) (tmp 18)
  refine RL.call (rCheck _ _ _ _ _ l m hl hm hsz) rfl rfl ?_
  rintro _ w1 ⟨rfl, hx⟩
  replace H := H.ext hx
  refine RL.r (asgI rfl) rfl ?_
  refine RL.nil ?_
  refine WP.seq ?_
  refine WP.regionS ?_
  refine RL.r (mvI rfl) rfl ?_
  refine RL.r (neq rfl rfl) rfl ?_
  refine RL.nil ?_
  refine WP.cond rfl (fun hc => ?_) (fun hc => ?_)
  · refine WP.regionS ?_
    refine RL.r (mvI rfl) rfl ?_
    refine RL.r (asgL rfl) rfl ?_
    refine RL.r (asgI rfl) rfl ?_
    refine RL.nil ?_
    refine WP.ret ?_
    refine fin2_ret rfl rfl ⟨⟨none, 0, [], rfl, ⟨Sl.nil _, fun r hr => by simp at hr⟩, by rw [if_neg hc]; rfl⟩, H⟩
  · refine WP.skip ?_
    refine WP.regionS ?_
    have hck := Classical.not_not.1 hc
    obtain ⟨hl8, hlok, hm8, hmok⟩ := check_ok hck
    refine RL.build0 (α := (Rw Part)) w0.heap.size H.size rfl ?_
    intro w2 i23 hi23 hx hb23
    replace H := H.ext hx; clear hx
    refine RL.r (asgL rfl) rfl ?_
    refine RL.nil ?_
    refine WP.seq ?_
    refine WP.regionS ?_
    refine RL.r (asgI rfl) rfl ?_
    refine RL.nil ?_
    refine WP.block ?_
    refine WP.loop (fun k e' w' => ∃ j : Nat, ∃ (a7 : Option Addr) (c7 : Nat) (g : List (Rw Part)),  j + k = m.length ∧ Head [7, 8, 9, 10, 11, 12, 13, 14, 15, 16, 24, 25, 26, 27, 28, 29, 30, 31, 32, 33, 34, 35, 36, 37, 38, 39, 40, 41, 42, 43, 44, 45, 46, 47, 48, 49, 50, 51, 52, 53, 54, 55, 56, 57, 58, 59, 60, 61, 62, 63, 64, 65, 66, 67, 68, 69, 70, 71, 72, 73, 74, 75, 76, 77, 78, 79, 80, 81, 82, 83, 84, 85, 86, 87, 88, 89, 90, 91, 92, 93, 94, 95, 96, 97, 98, 99, 100, 101, 102, 103, 104, 105, 106, 107, 108, 109, 110, 111, 112, 113] _ [(7, .slice a7 g.length c7), (8, .int .i64 (j : Int))] e' ∧ Ext w0 w' ∧ Own w0.heap.size w' 60 a7 c7 g ∧ rows g = (List.range j).map (rangeRow m l) ∧ ∀ r ∈ g, Own w0.heap.size w' 66 r.a r.c r.l) (m.length)
      ⟨0, _, 0, [], by omega, Head.intro (AgreeOff.refl _ _) ⟨rfl, rfl, trivial⟩, H, hb23, rfl, fun r hr => by simp at hr⟩ ?_
    clear H
    rintro k e w3 ⟨j, a7, c7, g, hjk, ⟨jk, rfl⟩, H, hG, hrows, hR⟩
    have H0 := H; have H3 := Ext.refl w3
    refine WP.seq ?_
    refine WP.regionS ?_
    refine RL.r (mvI rfl) rfl ?_
    refine RL.r (mvL rfl) rfl ?_
    refine RL.r (len_sl rfl) rfl ?_
    refine RL.r (lss rfl rfl) rfl ?_
    refine RL.nil ?_
    refine WP.cond rfl (fun hc => ?_) (fun hc => ?_)
    · refine WP.skip ?_
      refine WP.seq ?_
      refine WP.block ?_
      refine WP.regionS ?_
      have hj : j < m.length := by omega
      refine RL.build0 (α := Part) w3.heap.size H3.size rfl ?_
      intro w4 i30 hi30 hx hb30
      replace H := H.ext hx; replace H3 := H3.ext hx; clear hx
      refine RL.r (asgL rfl) rfl ?_
      refine RL.nil ?_
      refine WP.seq ?_
      refine WP.regionS ?_
      refine RL.r (asgI rfl) rfl ?_
      refine RL.nil ?_
      refine WP.block ?_
      refine WP.loop (fun k1 e' w' => ∃ j1 : Nat, ∃ (a9 : Option Addr) (c9 : Nat),  j1 + k1 = l.length ∧ Head [9, 10, 11, 12, 13, 14, 15, 16, 31, 32, 33, 34, 35, 36, 37, 38, 39, 40, 41, 42, 43, 44, 45, 46, 47, 48, 49, 50, 51, 52, 53, 54, 55, 56, 57, 58, 59, 60, 61, 62, 63, 64, 65, 66, 67, 68, 69, 70, 71, 72, 73, 74, 75, 76, 77, 78, 79, 80, 81, 82, 83, 84, 85, 86, 87, 88, 89, 90, 91, 92, 93, 94, 95, 96, 97, 98, 99, 100, 101, 102, 103, 104, 105, 106, 107, 108, 109] _ [(9, .slice a9 ((l.take j1).flatMap (part1 m j)).length c9), (10, .int .i64 (j1 : Int))] e' ∧ Ext w0 w' ∧ Ext w3 w' ∧ Own w3.heap.size w' 66 a9 c9 ((l.take j1).flatMap (part1 m j))) (l.length)
        ⟨0, _, 0, by omega, Head.intro (AgreeOff.refl _ _) ⟨rfl, rfl, trivial⟩, H, H3, hb30⟩ ?_
      clear H H3
      rintro k1 e w5 ⟨j1, a9, c9, hjk1, ⟨jk1, rfl⟩, H, H3, hM⟩
      refine WP.seq ?_
      refine WP.regionS ?_
      refine RL.r (mvI rfl) rfl ?_
      refine RL.r (mvL rfl) rfl ?_
      refine RL.r (len_sl rfl) rfl ?_
      refine RL.r (lss rfl rfl) rfl ?_
      refine RL.nil ?_
      refine WP.cond rfl (fun hc => ?_) (fun hc => ?_)
      · refine WP.skip ?_
        refine WP.seq ?_
        refine WP.block ?_
        refine WP.seq ?_
        refine WP.seq ?_
        refine WP.draw (by kernel_rfl) ?_
        refine QL.r (mvL rfl) rfl ?_
        refine QL.r (mvI rfl) rfl ?_
        have hj1 : j1 < l.length := by omega
        obtain ⟨p, rfl⟩ := hm.isAddr (by decide) hj
        obtain ⟨q, rfl⟩ := hl.isAddr (by decide) hj1
        have htj := hlok j1 hj1
        have htn : 1 ≤ l[j1].n ∧ l[j1].n ≤ 8 := htj.1.2
        have hW : ∀ w', Ext w5 w' → Ct Try.prog 28 #[.agg (Lies.enc m[j]).toArray, .string l[j1].name] w' fun u w'' => u = .bool (decide (m[j].has l[j1].name)) ∧ Ext w' w'' := fun w' hw' => rWants w' m[j] l[j1].name ((hts _ (List.getElem_mem hj)).1.ext (H.ext hw')) (hts _ (List.getElem_mem hj)).2
        refine QL.r (ix rfl rfl rfl hj) rfl ?_
        refine QL.m (ldS_el rfl hm H rfl rfl hj) rfl ?_
        refine QL.r (mvL rfl) rfl ?_
        refine QL.r (mvI rfl) rfl ?_
        refine QL.r (ix rfl rfl rfl (by omega)) rfl ?_
        refine QL.r (fa_el hl.1 rfl) rfl ?_
        refine QL.m (ld_el rfl hl H rfl (by omega) rfl) rfl ?_
        -- call stagecoach/stagecoachref10.Wants (tmp 40) (tmp 45)
        refine QL.call (hW) rfl rfl ?_
        first | refine QL.r (notD rfl) rfl ?_ | refine QL.r (not_ rfl) rfl ?_
        refine QL.nil ?_; intro w7 hx; replace H := H.ext hx; replace H3 := H3.ext hx; replace hM := hM.ext hx
        refine WP.cond rfl (fun hc => ?_) (fun hc => ?_)
        · refine WP.exit ?_
          refine WP.region ?_
          refine RL.r (mvI rfl) rfl ?_
          refine RL.r (add rfl rfl (by omega)) rfl ?_
          refine RL.r (asgI rfl) rfl ?_
          refine RL.nil ?_
          refine ⟨k1 - 1, by omega, j1 + 1, a9, c9, by omega, Head.intro (by repeat (first | with_reducible exact AgreeOff.mix _ _ _ | refine AgreeOff.look rfl ?_ | refine AgreeOff.mixs rfl ?_)) ⟨slE (by rw [flatMap_snoc _ _ _ hj1, part1_no (fun h => hc ((wantsAt_iff hj).1 h)), List.append_nil]), rfl, trivial⟩, H, H3, by rw [flatMap_snoc _ _ _ hj1, part1_no (fun h => hc ((wantsAt_iff hj).1 h)), List.append_nil]; exact hM⟩
        · refine WP.skip ?_
          refine WP.seq ?_
          refine WP.draw (by kernel_rfl) ?_
          refine QL.r (mvL rfl) rfl ?_
          refine QL.r (mvL rfl) rfl ?_
          refine QL.r (len_sl rfl) rfl ?_
          refine QL.r (mvL rfl) rfl ?_
          refine QL.r (mvI rfl) rfl ?_
          have hwt := Classical.not_not.1 hc
          have hK := Nat.lt_of_le_of_lt (Nat.zero_le _) (ahead_lt hj hwt)
          have ha8 : ahead m j l[j1].name ≤ 8 := Nat.le_trans (ahead_le _ _ _) (by omega)
          have hA : ∀ w', Ext w7 w' → Ct Try.prog 74 #[.slice (some p) m.length d, .int .i64 ((m.length : Nat) : Int), .string l[j1].name] w' fun u w'' => u = .int .i64 ((ahead m m.length l[j1].name : Nat) : Int) ∧ Ext w' w'' := fun w' hw' => rAhead w' _ d m m.length l[j1].name (hm.ext (H.ext hw')) (fun x hx => ⟨(hts x hx).1.ext (H.ext hw'), (hts x hx).2⟩) (Nat.le_refl _) (by omega)
          have hA2 : ∀ w', Ext w7 w' → Ct Try.prog 74 #[.slice (some p) m.length d, .int .i64 (j : Int), .string l[j1].name] w' fun u w'' => u = .int .i64 ((ahead m j l[j1].name : Nat) : Int) ∧ Ext w' w'' := fun w' hw' => rAhead w' _ d m j l[j1].name (hm.ext (H.ext hw')) (fun x hx => ⟨(hts x hx).1.ext (H.ext hw'), (hts x hx).2⟩) (by omega) (by omega)
          have hsb := stretch_bounds ha8 hK (by omega) htn.2
          refine QL.r (ix rfl rfl rfl (by omega)) rfl ?_
          refine QL.r (fa_el hl.1 rfl) rfl ?_
          refine QL.m (ld_el rfl hl H rfl (by omega) rfl) rfl ?_
          -- call stagecoach/stagecoachref10.ahead (tmp 48) (tmp 50) (tmp 55)
          refine QL.call (hA) rfl rfl ?_
          refine QL.r (mvL rfl) rfl ?_
          refine QL.r (mvI rfl) rfl ?_
          refine QL.r (mvL rfl) rfl ?_
          refine QL.r (mvI rfl) rfl ?_
          refine QL.r (ix rfl rfl rfl (by omega)) rfl ?_
          refine QL.r (fa_el hl.1 rfl) rfl ?_
          refine QL.m (ld_el rfl hl H rfl (by omega) rfl) rfl ?_
          -- call stagecoach/stagecoachref10.ahead (tmp 57) (tmp 58) (tmp 63)
          refine QL.call (hA2) rfl rfl ?_
          refine QL.r (mvL rfl) rfl ?_
          refine QL.r (mvI rfl) rfl ?_
          refine QL.r (ix rfl rfl rfl (by omega)) rfl ?_
          refine QL.r (fa_el hl.1 rfl) rfl ?_
          refine QL.m (ld_el rfl hl H rfl (by omega) rfl) rfl ?_
          refine QL.r (asgI rfl) rfl ?_
          refine QL.r (asgI rfl) rfl ?_
          refine QL.r (asgI rfl) rfl ?_
          refine QL.nil ?_; intro w10 hx; replace H := H.ext hx; replace H3 := H3.ext hx; replace hM := hM.ext hx
          refine WP.seq ?_
          refine WP.draw (by kernel_rfl) ?_
          refine QL.r (mvI rfl) rfl ?_
          refine QL.r (mvI rfl) rfl ?_
          refine QL.r (mvI rfl) rfl ?_
          refine QL.r (quo rfl rfl (by omega)) rfl ?_
          refine QL.r (mul rfl rfl (by omega)) rfl ?_
          refine QL.r (mvI rfl) rfl ?_
          refine QL.r (mvI rfl) rfl ?_
          refine QL.r (mvI rfl) rfl ?_
          refine QL.r (rem rfl rfl (by omega)) rfl ?_
          refine QL.r (min_i rfl rfl) rfl ?_
          refine QL.r (add rfl rfl (by omega)) rfl ?_
          refine QL.r (asgI rfl) rfl ?_
          refine QL.nil ?_; intro w11 hx; replace H := H.ext hx; replace H3 := H3.ext hx; replace hM := hM.ext hx
          refine WP.seq ?_
          refine WP.draw (by kernel_rfl) ?_
          refine QL.r (mvI rfl) rfl ?_
          refine QL.r (add rfl rfl (by omega)) rfl ?_
          refine QL.r (mvI rfl) rfl ?_
          refine QL.r (mvI rfl) rfl ?_
          refine QL.r (quo rfl rfl (by omega)) rfl ?_
          refine QL.r (mul rfl rfl (by omega)) rfl ?_
          refine QL.r (mvI rfl) rfl ?_
          refine QL.r (add rfl rfl (by omega)) rfl ?_
          refine QL.r (mvI rfl) rfl ?_
          refine QL.r (mvI rfl) rfl ?_
          refine QL.r (rem rfl rfl (by omega)) rfl ?_
          refine QL.r (min_i rfl rfl) rfl ?_
          refine QL.r (add rfl rfl (by omega)) rfl ?_
          refine QL.r (asgI rfl) rfl ?_
          refine QL.nil ?_; intro w12 hx; replace H := H.ext hx; replace H3 := H3.ext hx; replace hM := hM.ext hx
          refine WP.regionS ?_
          refine RL.r (mvI rfl) rfl ?_
          refine RL.r (asgI rfl) rfl ?_
          refine RL.nil ?_
          refine WP.block ?_
          refine WP.loop (fun k2 e' w' => ∃ j2 : Nat, ∃ (a9 : Option Addr) (c9 : Nat),  j2 + k2 = fromK (ahead m j l[j1].name + 1) l[j1].n.toNat (ahead m m.length l[j1].name) - fromK (ahead m j l[j1].name) l[j1].n.toNat (ahead m m.length l[j1].name) ∧ Head [9, 16, 95, 96, 97, 98, 99, 100, 101, 102, 103, 104, 105, 106, 107, 108, 109] _ [(9, .slice a9 (catS ((l.take j1).flatMap (part1 m j)) l[j1].name (fromK (ahead m j l[j1].name) l[j1].n.toNat (ahead m m.length l[j1].name)) j2).length c9), (16, .int .i64 (addS (((ahead m j l[j1].name : Nat) : Int) * (l[j1].n / ((ahead m m.length l[j1].name : Nat) : Int)) + min ((ahead m j l[j1].name : Nat) : Int) (l[j1].n % ((ahead m m.length l[j1].name : Nat) : Int))) j2))] e' ∧ Ext w0 w' ∧ Ext w3 w' ∧ Own w3.heap.size w' 66 a9 c9 (catS ((l.take j1).flatMap (part1 m j)) l[j1].name (fromK (ahead m j l[j1].name) l[j1].n.toNat (ahead m m.length l[j1].name)) j2)) (fromK (ahead m j l[j1].name + 1) l[j1].n.toNat (ahead m m.length l[j1].name) - fromK (ahead m j l[j1].name) l[j1].n.toNat (ahead m m.length l[j1].name))
            ⟨0, a9, c9, by omega, Head.intro (AgreeOff.refl _ _) ⟨rfl, rfl, trivial⟩, H, H3, hM⟩ ?_
          clear H H3 hM
          rintro k2 e w13 ⟨j2, a9, c9, hjk2, ⟨jk2, rfl⟩, H, H3, hM⟩
          have hrl := row_len m j hl8 hlok j1; have htop := fromK_top ((wantsAt_iff hj).2 hwt) l[j1].n.toNat; have hn8 : l[j1].n.toNat ≤ 8 := by omega
          have hadd1 := addS_eq (((ahead m j l[j1].name : Nat) : Int) * (l[j1].n / ((ahead m m.length l[j1].name : Nat) : Int)) + min ((ahead m j l[j1].name : Nat) : Int) (l[j1].n % ((ahead m m.length l[j1].name : Nat) : Int))) (j2 + 1)
          have hadd := addS_eq (((ahead m j l[j1].name : Nat) : Int) * (l[j1].n / ((ahead m m.length l[j1].name : Nat) : Int)) + min ((ahead m j l[j1].name : Nat) : Int) (l[j1].n % ((ahead m m.length l[j1].name : Nat) : Int))) j2; have hFi := fromK_int (ahead m j l[j1].name) (ahead m m.length l[j1].name) l[j1].n (by omega); have hGi := fromK_int1 (ahead m j l[j1].name) (ahead m m.length l[j1].name) l[j1].n (by omega); have hmo := fromK_mono l[j1].n.toNat (ahead m m.length l[j1].name) _ _ (Nat.le_succ (ahead m j l[j1].name))
          refine WP.seq ?_
          refine WP.regionS ?_
          refine RL.r (mvI rfl) rfl ?_
          refine RL.r (mvI rfl) rfl ?_
          refine RL.r (lss rfl rfl) rfl ?_
          refine RL.nil ?_
          refine WP.cond rfl (fun hc => ?_) (fun hc => ?_)
          · refine WP.skip ?_
            refine WP.seq ?_
            refine WP.block ?_
            refine WP.region ?_
            refine RL.r (mvL rfl) rfl ?_
            refine RL.r (mvL rfl) rfl ?_
            refine RL.r (mvI rfl) rfl ?_
            refine RL.r (ix rfl rfl rfl (by omega)) rfl ?_
            refine RL.r (fa_el hl.1 rfl) rfl ?_
            refine RL.m (ld_el rfl hl H rfl (by omega) rfl) rfl ?_
            refine RL.r (mvI rfl) rfl ?_
            refine RL.r (bld rfl rfl) rfl ?_
            refine RL.buildSlice w0.heap.size H.size rfl rfl rfl rfl rfl ?_
            intro w14 i108 hi108 hx hb108
            replace H := H.ext hx; replace H3 := H3.ext hx; replace hM := hM.ext hx; clear hx
            refine RL.appendS rfl hM H3.size rfl (show Sl _ _ [(⟨l[j1].name, addS _ j2⟩ : Part)] from Box.sl1 hb108) rfl rfl (by decide) rfl cell1 (by rw [catS_eq, List.length_append, strip_length]; omega) (by rw [catS_eq, List.length_append, strip_length]; simp only [maxLen]; omega) rfl ?_
            intro w15 a109 c109 hu hb109 hfr109
            replace H3 := Ext.own H3 (hM) hu; replace H := H0.trans H3; clear hu
            refine RL.r (asgL rfl) rfl ?_
            refine RL.nil ?_
            refine WP.region ?_
            refine RL.r (mvI rfl) rfl ?_
            refine RL.r (add rfl rfl (by omega)) rfl ?_
            refine RL.r (asgI rfl) rfl ?_
            refine RL.nil ?_
            have hcs : catS ((l.take j1).flatMap (part1 m j)) l[j1].name (fromK (ahead m j l[j1].name) l[j1].n.toNat (ahead m m.length l[j1].name)) j2 ++ [(⟨l[j1].name, addS (((ahead m j l[j1].name : Nat) : Int) * (l[j1].n / ((ahead m m.length l[j1].name : Nat) : Int)) + min ((ahead m j l[j1].name : Nat) : Int) (l[j1].n % ((ahead m m.length l[j1].name : Nat) : Int))) j2⟩ : Part)] = catS ((l.take j1).flatMap (part1 m j)) l[j1].name (fromK (ahead m j l[j1].name) l[j1].n.toNat (ahead m m.length l[j1].name)) (j2 + 1) := by
              rw [catS_succ]; congr 3; omega
            refine ⟨k2 - 1, by omega, j2 + 1, _, _, by omega, Head.intro (by repeat (first | with_reducible exact AgreeOff.mix _ _ _ | refine AgreeOff.look rfl ?_ | refine AgreeOff.mixs rfl ?_)) ⟨slE (by rw [hcs]), intE (by omega), trivial⟩, H, H3, by rw [← hcs]; exact hb109⟩
          · refine WP.exit ?_
            refine WP.region ?_
            refine RL.r (mvI rfl) rfl ?_
            refine RL.r (add rfl rfl (by omega)) rfl ?_
            refine RL.r (asgI rfl) rfl ?_
            refine RL.nil ?_
            have hfin : catS ((l.take j1).flatMap (part1 m j)) l[j1].name (fromK (ahead m j l[j1].name) l[j1].n.toNat (ahead m m.length l[j1].name)) j2 = (l.take (j1 + 1)).flatMap (part1 m j) := by
              rw [flatMap_snoc _ _ _ hj1, part1_yes ((wantsAt_iff hj).2 hwt), ← catS_eq, show j2 = fromK (ahead m j l[j1].name + 1) l[j1].n.toNat (ahead m m.length l[j1].name) - fromK (ahead m j l[j1].name) l[j1].n.toNat (ahead m m.length l[j1].name) by omega]
            refine ⟨k1 - 1, by omega, j1 + 1, _, _, by omega, Head.intro (by repeat (first | with_reducible exact AgreeOff.mix _ _ _ | refine AgreeOff.look rfl ?_ | refine AgreeOff.mixs rfl ?_)) ⟨slE (by rw [hfin]), rfl, trivial⟩, H, H3, by rw [← hfin]; exact hM⟩
      · refine WP.exit ?_
        refine WP.region ?_
        refine RL.r (mvL rfl) rfl ?_
        refine RL.r (mvL rfl) rfl ?_
        refine RL.buildSlice w0.heap.size H.size rfl rfl rfl rfl rfl ?_
        intro w16 i112 hi112 hx hb112
        replace H := H.ext hx; replace H3 := H3.ext hx; replace hM := hM.ext hx; clear hx
        have hrow0 := hM
        rw [List.take_of_length_le (by omega)] at hrow0
        have hgl : g.length = j := by have := congrArg List.length hrows; simpa using this
        have hG2 := hG.ext H3
        refine RL.appendS rfl hG2 H.size rfl (show Sl _ _ [(⟨a9, c9, (l.take j1).flatMap (part1 m j)⟩ : Rw Part)] from Box.sl1 hb112) rfl rfl (by decide) rfl cell1 (by omega) (by simp only [maxLen]; omega) rfl ?_
        intro w17 a113 c113 hu hb113 hfr113
        have hR2 : ∀ r ∈ g ++ [(⟨a9, c9, (l.take j1).flatMap (part1 m j)⟩ : Rw Part)], Own w0.heap.size w17 66 r.a r.c r.l := by
          intro r hr
          rcases List.mem_append.1 hr with hr | hr
          · have h1 := (hR r hr).ext H3
            exact h1.upd hu (fun x hx => h1.apart hG2 (by decide) hx)
          · obtain rfl := List.mem_singleton.1 hr
            exact (hM.upd hu (fun x hx => hM.apart hG2 (by decide) hx)).mono H0.size
        replace H := Ext.own H hG2 hu; clear hu
        refine RL.r (asgL rfl) rfl ?_
        refine RL.nil ?_
        refine WP.region ?_
        refine RL.r (mvI rfl) rfl ?_
        refine RL.r (add rfl rfl (by omega)) rfl ?_
        refine RL.r (asgI rfl) rfl ?_
        refine RL.nil ?_
        refine ⟨k - 1, by omega, j + 1, _, _, _, by omega, Head.intro (by repeat (first | with_reducible exact AgreeOff.mix _ _ _ | refine AgreeOff.look rfl ?_ | refine AgreeOff.mixs rfl ?_)) ⟨rfl, rfl, trivial⟩, H, hb113, ?_, hR2⟩
        unfold rows at hrows ⊢
        rw [List.map_append, hrows, range_snoc]
        simp only [List.map_cons, List.map_nil, rangeRow]
        rw [List.take_of_length_le (by omega)]
    · refine WP.exit ?_
      refine WP.regionS ?_
      refine RL.r (mvL rfl) rfl ?_
      refine RL.r (asgL rfl) rfl ?_
      refine RL.r (asgI rfl) rfl ?_
      refine RL.nil ?_
      refine WP.ret ?_
      refine fin2_ret rfl rfl ⟨⟨a7, c7, g, tup2E hck.symm, ⟨hG.sl, fun r hr => (hR r hr).sl⟩, ?_⟩, H⟩
      rw [if_pos hck, hrows, show j = m.length by omega]
      rfl
end Go.Proofs.Ytlkpgeopcdhgjaa
