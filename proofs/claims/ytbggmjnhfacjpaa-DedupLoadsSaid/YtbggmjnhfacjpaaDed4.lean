/-
  The walk of Open.
-/
import Derived.Test.YtbggmjnhfacjpaaDed3
set_option linter.unusedVariables false
namespace Go.Proofs.Ytbggmjnhfacjpaa
open Go Go.Eng Go.RowKit
def openA (D : Ds) (id : Int) : Int × Int × Int :=
  if id = 0 ∧ 32 ≤ D.E.length then (0, 0, 2) else if id = 0 then ((D.E.length : Int) + 1, 0, 0) else if ¬ isD D.E id then (0, 0, 80) else if 1099511627776 ≤ ep D.E id then (0, 0, 2) else (id, ep D.E id + 1, 0)
def openD (D : Ds) (id : Int) : Ds :=
  if id = 0 ∧ 32 ≤ D.E.length then D else if id = 0 then ⟨D.E ++ [0], D.S⟩ else if ¬ isD D.E id then D else if 1099511627776 ≤ ep D.E id then D else ⟨D.E.set (id - 1).toNat (ep D.E id + 1), D.S.filter fun x => decide (x.id ≠ id)⟩
theorem openV {x : Int × Int × Int} {r s e : Int} (h : x = (r, s, e)) : Value.tuple #[.int .i64 r, .int .i64 s, .int .i64 e] = .tuple #[.int .i64 x.1, .int .i64 x.2.1, .int .i64 x.2.2] := by rw [h]
theorem isD_ix {id : Int} {j : Nat} (h : id - 1 = (j : Int)) : (id - 1).toNat = j := by omega
set_option maxRecDepth 20000 in
theorem pOpen (w0 : World) (B i : Nat) (Z : Nat → Prop) (D : Ds) (hT : Tg B w0 i Z D) (K : Int) (M : Nat) (hok : okD K M D) (id : Int) :
    Ct Try.prog 15 #[.pointer (some ⟨i, 0, none⟩), .int .i64 id] w0 fun v w' => (v = .tuple #[.int .i64 (openA D id).1, .int .i64 (openA D id).2.1, .int .i64 (openA D id).2.2] ∧ ∃ Z', Tg B w' i Z' (openD D id) ∧ Grew Z Z' w0.heap.size) ∧ Upd Z w0 w' := by
  refine Ct.intro3 Try.func15 Try.ntmps15 rfl rfl (by decide) rfl ?_
  have H : Upd (Z) w0 w0 := Upd.refl _ w0
  obtain ⟨m, a, c, Hs, hL, hHS, hZ⟩ := hT.at_
  have hbt := hL.box
  have hE := hL.eps
  have hO := hL.own
  obtain ⟨lb, cc, hm, hr⟩ := hL.map
  have hmnod := hm.nod
  have hstm := hm.nob
  have hl32 := hok.len
  have hBs : B ≤ w0.heap.size := by have := hbt.old; have := hbt.lt; omega
  refine WP.regionS ?_
  refine RL.r (asgI rfl) rfl ?_
  refine RL.r (asgI rfl) rfl ?_
  refine RL.r (asgI rfl) rfl ?_
  refine RL.nil ?_
  refine WP.seq ?_
  refine WP.block ?_
  refine WP.seq (WP.quiet ?_)
  refine QL.r (mvI rfl) rfl ?_
  refine QL.r (eql rfl rfl) rfl ?_
  refine QL.r (mvB rfl) rfl ?_
  refine QL.gg (gwT rfl rfl) (fun hg => (mvP rfl).does _) rfl ?_
  refine QL.gg (gwT rfl rfl) (fun hg => (nilck (gs hg rfl)).does _) rfl ?_
  refine QL.gg (gwT rfl rfl) (fun hg => (fa_box (gs hg rfl)).does _) rfl ?_
  refine QL.gg (gwT rfl rfl) (fun hg => ld_box (gs hg rfl) hbt rfl) rfl ?_
  refine QL.gg (gwT rfl rfl) (fun hg => (len_sl (gs hg rfl)).does _) rfl ?_
  refine QL.gg (gwT rfl rfl) (fun hg => (geq (gs hg rfl) rfl).does _) rfl ?_
  refine QL.r (pickAnd rfl (fun hn => gs hn rfl)) rfl ?_
  refine QL.r (asgB rfl) rfl ?_
  refine QL.nil ?_; intro w1 hx; replace H := H.ext hx; replace hbt := hbt.ext hx; replace hT := hT.ext hx; replace hm := hm.ext hx; replace hE := hE.ext hx; replace hO := hO.ext hx
  refine WP.cond rfl (fun hc => ?_) (fun hc => ?_)
  · refine WP.regionS ?_
    refine RL.r (asgI rfl) rfl ?_
    refine RL.r (asgI rfl) rfl ?_
    refine RL.r (asgI rfl) rfl ?_
    refine RL.nil ?_
    refine WP.ret ?_
    have hc : id = 0 ∧ 32 ≤ D.E.length := ⟨hc.1, by omega⟩
    refine fin3_ret rfl rfl rfl ⟨⟨openV (by unfold openA; rw [if_pos hc]), Z, by unfold openD; rw [if_pos hc]; exact hT, Grew.refl _ _⟩, H⟩
  · refine WP.regionS ?_
    refine RL.r (mvI rfl) rfl ?_
    refine RL.r (eql rfl rfl) rfl ?_
    refine RL.r (asgB rfl) rfl ?_
    refine RL.nil ?_
    refine WP.cond rfl (fun hc => ?_) (fun hc => ?_)
    · refine WP.regionS ?_
      refine RL.r (mvP rfl) rfl ?_
      refine RL.r (mvP rfl) rfl ?_
      refine RL.r (nilck rfl) rfl ?_
      refine RL.r (fa_box rfl) rfl ?_
      refine RL.m (ld_box rfl hbt rfl) rfl ?_
      refine RL.buildSlice w0.heap.size H.size rfl rfl rfl rfl rfl ?_
      intro w2 i27 hi27 hx hb27
      replace H := H.ext hx; replace hbt := hbt.ext hx; replace hT := hT.ext hx; replace hm := hm.ext hx; replace hE := hE.ext hx; replace hO := hO.ext hx; clear hx
      refine RL.appendS rfl hE (Nat.le_trans hBs H.size) rfl (show Sl _ _ [(0 : Int)] from Box.sl1 hb27) rfl rfl (by decide) rfl cell1 (by omega) (by simp only [maxLen]; omega) rfl ?_
      intro w3 a28 c28 hu hb28 hfr28
      have hs2 := H.size
      replace hbt := hbt.upd hu (fun h => hE.box_apart hbt (by decide) h)
      replace hm := hm.upd hu (hm.nea hE)
      replace hO := hO.ow hE (by decide) hu
      replace H := Upd.upd H hu (fun j _ hj => by rw [hZ]; exact .inr (.inr (.inl hj)))
      refine RL.r (nilck rfl) rfl ?_
      refine RL.r (fa_box rfl) rfl ?_
      have hbt_0 := hbt
      refine RL.store1 rfl hbt rfl rfl rfl rfl ?_
      intro w4 hu hbt
      replace hm := hm.upd hu (hm.neb hbt_0)
      replace hO := hO.bx hbt_0 (by decide) hu
      replace hb28 := hb28.upd hu (fun j hj e => hb28.box_apart hbt_0 (by decide) (e ▸ hj))
      replace H := Upd.upd H hu (fun j _ hj => by rw [hZ]; exact .inl hj)
      refine RL.nil ?_
      refine WP.regionS ?_
      refine RL.r (mvP rfl) rfl ?_
      refine RL.r (nilck rfl) rfl ?_
      refine RL.r (fa_box rfl) rfl ?_
      refine RL.m (ld_box rfl hbt rfl) rfl ?_
      refine RL.r (len_sl rfl) rfl ?_
      refine RL.r (asgI rfl) rfl ?_
      refine RL.r (asgI rfl) rfl ?_
      refine RL.r (asgI rfl) rfl ?_
      refine RL.nil ?_
      refine WP.ret ?_
      have hn : ¬ (id = 0 ∧ 32 ≤ D.E.length) := fun h => absurd (show ¬ (id = 0 ∧ (32 : Int) ≤ (D.E.length : Int)) by assumption) (not_not_intro ⟨h.1, by omega⟩)
      have htl : Tl B _ i m a28 c28 (D.E ++ [0]) Hs := ⟨hbt, hb28, ⟨lb, cc, hm, hr⟩, hO⟩
      refine fin3_ret rfl rfl rfl ⟨⟨openV (by unfold openA; rw [if_neg hn, if_pos hc, List.length_append]; rfl), terr i m a28 Hs, by unfold openD; rw [if_neg hn, if_pos hc]; exact ⟨m, a28, c28, Hs, htl, hHS, rfl⟩, ?_⟩, H⟩
      rw [hZ]
      rintro k (h | h | h | h)
      · exact .inl (.inl h)
      · exact .inl (.inr (.inl h))
      · rcases hfr28 k h with h1 | h1
        · exact .inl (.inr (.inr (.inl h1)))
        · exact .inr (by omega)
      · exact .inl (.inr (.inr (.inr h)))
    · refine WP.regionS ?_
      refine RL.r (mvP rfl) rfl ?_
      refine RL.r (mvI rfl) rfl ?_
      -- call (*stagecoach/dedup.Table).is (tmp 37) (tmp 38)
      have hn : ¬ (id = 0 ∧ 32 ≤ D.E.length) := fun h => (show ¬ id = 0 by assumption) h.1
      refine RL.call (pIs _ B i a c m D.E hbt id) rfl rfl ?_
      rintro _ w5 ⟨rfl, hx⟩
      replace H := H.ext hx; replace hbt := hbt.ext hx; replace hT := hT.ext hx; replace hm := hm.ext hx; replace hE := hE.ext hx; replace hO := hO.ext hx
      first | refine RL.r (notD rfl) rfl ?_ | refine RL.r (not_ rfl) rfl ?_
      refine RL.r (asgB rfl) rfl ?_
      refine RL.nil ?_
      refine WP.cond rfl (fun hc => ?_) (fun hc => ?_)
      · refine WP.regionS ?_
        refine RL.r (asgI rfl) rfl ?_
        refine RL.r (asgI rfl) rfl ?_
        refine RL.r (asgI rfl) rfl ?_
        refine RL.nil ?_
        refine WP.ret ?_
        refine fin3_ret rfl rfl rfl ⟨⟨openV (by unfold openA; rw [if_neg (by assumption), if_neg (by assumption), if_pos hc]), Z, by unfold openD; rw [if_neg (by assumption), if_neg (by assumption), if_pos hc]; exact hT, Grew.refl _ _⟩, H⟩
      · refine WP.skip ?_
        refine WP.seq ?_
        refine WP.regionS ?_
        refine RL.r (mvP rfl) rfl ?_
        refine RL.r (nilck rfl) rfl ?_
        refine RL.r (fa_box rfl) rfl ?_
        refine RL.m (ld_box rfl hbt rfl) rfl ?_
        refine RL.r (mvI rfl) rfl ?_
        refine RL.r (sub rfl rfl (by have hid : isD D.E id := Classical.not_not.1 (by assumption); unfold isD at hid; omega)) rfl ?_
        have hid := Classical.not_not.1 (show ¬ ¬ isD D.E id from hc)
        obtain ⟨ji, hj, hje, hep⟩ := isD_at hid
        have hnum := hok.num _ (List.getElem_mem hj)
        unfold numB at hnum
        refine RL.r (ix_o rfl rfl hje hj (hE.sl.someA (by decide) hj)) rfl ?_
        refine RL.m (ld_o0 rfl hE.sl (Ext.refl _) rfl hj rfl (by decide)) rfl ?_
        refine RL.r (geq rfl rfl) rfl ?_
        refine RL.nil ?_
        refine WP.cond rfl (fun hc => ?_) (fun hc => ?_)
        · refine WP.regionS ?_
          refine RL.r (asgI rfl) rfl ?_
          refine RL.r (asgI rfl) rfl ?_
          refine RL.r (asgI rfl) rfl ?_
          refine RL.nil ?_
          refine WP.ret ?_
          have hc2 : 1099511627776 ≤ ep D.E id := by rw [hep]; exact hc
          refine fin3_ret rfl rfl rfl ⟨⟨openV (by unfold openA; rw [if_neg (by assumption), if_neg (by assumption), if_neg (by assumption), if_pos hc2]), Z, by unfold openD; rw [if_neg (by assumption), if_neg (by assumption), if_neg (by assumption), if_pos hc2]; exact hT, Grew.refl _ _⟩, H⟩
        · refine WP.skip ?_
          refine WP.regionS ?_
          refine RL.r (mvP rfl) rfl ?_
          refine RL.r (nilck rfl) rfl ?_
          refine RL.r (fa_box rfl) rfl ?_
          refine RL.m (ld_box rfl hbt rfl) rfl ?_
          refine RL.r (mvI rfl) rfl ?_
          refine RL.r (sub rfl rfl (by have hid : isD D.E id := Classical.not_not.1 (by assumption); unfold isD at hid; omega)) rfl ?_
          refine RL.r (ix_o rfl rfl hje hj (hE.sl.someA (by decide) hj)) rfl ?_
          refine RL.m (ld_o0 rfl hE.sl (Ext.refl _) rfl hj rfl (by decide)) rfl ?_
          refine RL.r (add rfl rfl (by omega)) rfl ?_
          refine RL.r (ix_o rfl rfl hje hj (hE.sl.someA (by decide) hj)) rfl ?_
          refine RL.setOwn (u := (D.E[ji] + 1 : Int)) (i := ji) (off := 0) (v := .int .i64 (D.E[ji] + 1)) (vs := [.int .i64 (D.E[ji] + 1)]) rfl hE hj rfl rfl rfl (Nat.le_of_ble_eq_true rfl) rfl (fun v hv => by obtain rfl := List.mem_singleton.1 hv; rfl) ?_
          intro w6 hu hE2
          replace hbt := hbt.upd hu (fun h => hE.box_apart hbt (by decide) h)
          replace hm := hm.upd hu (hm.nea hE)
          replace hO := hO.ow hE (by decide) hu
          replace H := Upd.upd H hu (fun j _ hj => by rw [hZ]; exact .inr (.inr (.inl hj)))
          replace hE := hE2
          clear hE2
          replace hT := hm
          have hle : ¬ 1099511627776 ≤ ep D.E id := by rw [hep]; exact hc
          refine RL.nil ?_
          refine WP.seq ?_
          refine WP.regionS ?_
          refine RL.r (mvP rfl) rfl ?_
          refine RL.r (nilck rfl) rfl ?_
          refine RL.r (fa_box rfl) rfl ?_
          refine RL.m (ld_box rfl hbt rfl) rfl ?_
          refine RL.rangeM rfl hm rfl ?_
          intro w7 it hit hx hI
          have hitB : w0.heap.size ≤ it := by have := H.size; omega
          replace H := H.ext hx; replace hbt := hbt.ext hx; replace hT := hT.ext hx; replace hm := hm.ext hx; replace hE := hE.ext hx; replace hO := hO.ext hx; clear hx
          refine RL.nil ?_
          refine WP.block ?_
          refine WP.loop (fun k e' w' => ∃ j : Nat, ∃ (done : List (DKey × Value × Nat)) (seen : Array Nat),  j + k = lb.length ∧ Head [7, 65, 66, 67, 68, 69, 70, 71, 72, 73, 74, 75, 76, 77] _ [] e' ∧ Upd (Z) w0 w' ∧ Box B w' i 71 [.slice a D.E.length c, .map (some m)] ∧ ItM w' it m cc seen ∧ Seen lb done seen ∧ done.length = j ∧ MpD B w' m (lbF (fun k : DKey => decide (k.id = id)) lb done) cc ∧ OwnsD B w' Hs ∧ Own B w' 3 a c (D.E.set ji (D.E[ji] + 1))) (lb.length)
            ⟨0, [], #[], by omega, Head.intro (AgreeOff.refl _ _) trivial, H, hbt, hI, Seen.nil lb, rfl, (by rw [lbF_nil]; exact hm), hO, hE⟩ ?_
          clear H hbt hT hm hE hO
          rintro k e w8 ⟨j, done, seen, hjk, ⟨jk, rfl⟩, H, hbt, hI, hS, hdl, hm, hO, hE⟩
          have hle1 := hS.le
          refine WP.regionS ?_
          refine RL.nextM rfl hI hm rfl ?_
          intro w9 o hu ho
          have hne := hI.ne hm
          have hnb := hI.neb hbt
          replace H := Upd.box H hu hitB
          replace hbt := hbt.upd hu (Ne.symm hnb)
          replace hm := hm.upd hu (Ne.symm hne)
          replace hO := hO.upd hu (fun x hx j hj e => hI.nea (hO.own x hx) (e ▸ hj))
          replace hE := hE.upd hu (fun j hj e => hI.nea hE (e ▸ hj))
          clear hI hu
          refine RL.r (ex0k rfl) rfl ?_
          refine RL.nil ?_
          refine WP.seq ?_
          refine WP.cond rfl (fun hc => ?_) (fun hc => ?_)
          · refine WP.skip ?_
            refine WP.block ?_
            refine WP.regionS ?_
            obtain ⟨q, rfl⟩ := Option.ne_none_iff_exists'.1 hc
            obtain ⟨hqR, hqs, hI⟩ := ho
            have hq := lbF_mem hqR
            have hS2 := hS.push hq hqs
            have hle2 := hS2.le
            rw [List.length_append, List.length_singleton] at hle2
            refine RL.m (entK rfl hI hm hqR rfl) rfl ?_
            refine RL.r (ex0 rfl) rfl ?_
            refine RL.alloc w0.heap.size H.size rfl rfl ?_
            intro w10 i7 hi7 hx hb7
            have net_7 := hbt.ne hi7
            refine RL.storeS rfl hb7 rfl rfl rfl rfl ?_
            intro w11 hu hb7
            replace hx := hx.box hu (Nat.le_of_eq hi7.symm)
            replace H := H.ext hx; replace hbt := hbt.ext hx; replace hI := hI.ext hx; replace hm := hm.ext hx; replace hO := hO.ext hx; replace hE := hE.ext hx; clear hx hu
            refine RL.nil ?_
            refine WP.regionS ?_
            refine RL.r (fa_box rfl) rfl ?_
            refine RL.m (ld_box rfl hb7 rfl) rfl ?_
            refine RL.r (mvI rfl) rfl ?_
            refine RL.r (eql rfl rfl) rfl ?_
            refine RL.nil ?_
            refine WP.cond rfl (fun hc => ?_) (fun hc => ?_)
            · refine WP.any ?_
              intro w12 hx; replace H := H.ext hx; replace hbt := hbt.ext hx; replace hb7 := hb7.ext hx; replace hI := hI.ext hx; replace hm := hm.ext hx; replace hO := hO.ext hx; replace hE := hE.ext hx
              refine AL.p 0 (by kernel_rfl) rfl (mvP rfl) rfl ?_
              refine AL.p 1 (by kernel_rfl) rfl (nilck rfl) rfl ?_
              refine AL.p 2 (by kernel_rfl) rfl (fa_box rfl) rfl ?_
              refine AL.m 3 (by kernel_rfl) rfl (ld_box rfl hbt rfl) rfl ?_
              refine AL.m 4 (by kernel_rfl) rfl (ldS_box rfl hb7 (Nat.le_of_ble_eq_true rfl) rfl) rfl ?_
              refine AL.o 5 (by kernel_rfl) rfl ?_
              refine RL.delM0 (k := q.1) rfl hm rfl ?_
              intro w13 hu hm'
              rw [lbF_del (lb := lb) (f := (fun k : DKey => decide (k.id = id))) hstm hmnod hq (by simpa using hc)] at hm'
              have hnb := hm.neb hbt
              replace hI := hI.upd hu (hI.ne hm)
              replace hO := hO.mp hm hu
              replace hE := hE.upd hu (fun j hj e => hm.nea hE (e ▸ hj))
              replace H := Upd.upd H hu (fun j _ hj => by rw [hZ]; exact .inr (.inl hj))
              replace hbt := hbt.upd hu (Ne.symm hnb)
              refine RL.nil ?_
              refine AL.nil (by kernel_rfl) ?_
              refine ⟨k - 1, by omega, j + 1, done ++ [q], seen.push q.2.2, by omega, Head.intro (by repeat (first | with_reducible exact AgreeOff.mix _ _ _ | refine AgreeOff.look rfl ?_ | refine AgreeOff.mixs rfl ?_)) trivial, H, hbt, hI, hS2, by simp [hdl], hm', hO, hE⟩
            · refine WP.skip ?_
              refine ⟨k - 1, by omega, j + 1, done ++ [q], seen.push q.2.2, by omega, Head.intro (by repeat (first | with_reducible exact AgreeOff.mix _ _ _ | refine AgreeOff.look rfl ?_ | refine AgreeOff.mixs rfl ?_)) trivial, H, hbt, hI, hS2, by simp [hdl], (by rw [lbF_keep (f := (fun k : DKey => decide (k.id = id))) hstm hq (by simpa using hc)]; exact hm), hO, hE⟩
          · refine WP.exit ?_
            refine WP.seq ?_
            refine WP.draw (by kernel_rfl) ?_
            refine QL.r (mvI rfl) rfl ?_
            refine QL.r (mvP rfl) rfl ?_
            refine QL.r (nilck rfl) rfl ?_
            refine QL.r (fa_box rfl) rfl ?_
            refine QL.m (ld_box rfl hbt rfl) rfl ?_
            refine QL.r (mvI rfl) rfl ?_
            refine QL.r (sub rfl rfl (by have hid : isD D.E id := Classical.not_not.1 (by assumption); unfold isD at hid; omega)) rfl ?_
            refine QL.r (ix_o rfl rfl hje hj (hE.sl.someA (i := ji) (by decide) (by rw [List.length_set]; exact hj))) rfl ?_
            obtain rfl : o = none := Classical.not_not.1 hc
            obtain ⟨hall, hI⟩ := ho
            refine QL.m (ld_o0 rfl hE.sl (Ext.refl _) rfl (show ji < _ by rw [List.length_set]; exact hj) rfl (by decide)) rfl ?_
            refine QL.r (asgI rfl) rfl ?_
            refine QL.r (asgI rfl) rfl ?_
            refine QL.r (asgI rfl) rfl ?_
            refine QL.nil ?_; intro w14 hx; replace H := H.ext hx; replace hbt := hbt.ext hx; replace hI := hI.ext hx; replace hm := hm.ext hx; replace hO := hO.ext hx; replace hE := hE.ext hx
            refine WP.ret ?_
            have hend := hm
            rw [lbF_end (hS.perm hstm (lbF_all hS hall))] at hend
            have hrep := rep_filter hr (fun k : DKey => decide (k.id = id))
            have hfl : (Hs.filter fun x => !(fun k : DKey => decide (k.id = id)) (key x)).map Maker.pl = D.S.filter fun x => decide (x.id ≠ id) := by
              rw [← hHS, List.filter_map]
              congr 1
              apply List.filter_congr
              intro x _
              show (!decide (x.id = id)) = decide (x.id ≠ id)
              by_cases h : x.id = id <;> simp [h]
            have htl : Tl B _ i m a c (D.E.set ji (D.E[ji] + 1)) (Hs.filter fun x => !(fun k : DKey => decide (k.id = id)) (key x)) := ⟨by rw [List.length_set]; exact hbt, hE, ⟨_, _, hend, hrep⟩, hO.sub List.filter_sublist⟩
            have hjn := isD_ix hje
            refine fin3_ret rfl rfl rfl ⟨⟨openV (by unfold openA; rw [if_neg (by assumption), if_neg (by assumption), if_neg (by assumption), if_neg hle, hep]; simp), terr i m a (Hs.filter fun x => !(fun k : DKey => decide (k.id = id)) (key x)), ?_, ?_⟩, H⟩
            · unfold openD
              rw [if_neg (by assumption), if_neg (by assumption), if_neg (by assumption), if_neg hle, hep, hjn]
              exact ⟨m, a, c, _, htl, hfl, rfl⟩
            · rw [hZ]
              rintro k (h | h | h | ⟨x, hx, h⟩)
              · exact .inl (.inl h)
              · exact .inl (.inr (.inl h))
              · exact .inl (.inr (.inr (.inl h)))
              · exact .inl (.inr (.inr (.inr ⟨x, (List.mem_filter.1 hx).1, h⟩)))
end Go.Proofs.Ytbggmjnhfacjpaa
