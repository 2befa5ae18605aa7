/-
  The walk of Load.
-/
import Derived.Test.YtbggmjnhfacjpaaDed4
set_option linter.unusedVariables false
namespace Go.Proofs.Ytbggmjnhfacjpaa
open Go Go.Eng Go.RowKit
theorem Box.mono {B B' b : Nat} {w : World} {T : TypeId} {cs : List Value} (h : Box B w b T cs) (k : B' ≤ B) : Box B' w b T cs := ⟨Nat.le_trans k h.old, h.at_⟩
theorem tupP {p : Option Addr} {x y : Int} (h : x = y) : Value.tuple #[.pointer p, .int .i64 x] = Value.tuple #[.pointer p, .int .i64 y] := by rw [h]
/-- may this stand at place i? -/
def mkAt (E : List Int) (l : List Maker) (i : Nat) (h : i < l.length) : Prop := (0 < i → bfr (l[i - 1]'(by omega)) l[i]) ∧ isD E l[i].id ∧ l[i].epoch = ep E l[i].id ∧ rowB l[i].last
noncomputable def ldE (E : List Int) (l : List Maker) : Int := open Classical in if 32 < E.length then 2 else if ¬ ∀ e ∈ E, numB e then 1 else if ∀ (i : Nat) (h : i < l.length), mkAt E l i h then 0 else 1
theorem ldE_ok {E : List Int} {l : List Maker} (h : ldE E l = 0) : E.length ≤ 32 ∧ (∀ e ∈ E, numB e) ∧ ∀ (i : Nat) (h : i < l.length), mkAt E l i h := by
  unfold ldE at h
  split at h
  · cases h
  · split at h
    · cases h
    · split at h
      · rename_i h1 h2 h3
        exact ⟨by omega, Classical.not_not.1 h2, h3⟩
      · cases h
theorem ldE_0 {E : List Int} {l : List Maker} (h1 : E.length ≤ 32) (h2 : ∀ e ∈ E, numB e) (h3 : ∀ (i : Nat) (h : i < l.length), mkAt E l i h) : ldE E l = 0 := by
  unfold ldE
  rw [if_neg (by omega), if_neg (not_not_intro h2), if_pos h3]
theorem rowB_K {l : List Did} (h : rowB l) : rowK 2199023255552 l := by
  obtain ⟨h1, h2, h3⟩ := h
  refine ⟨h1, h2, fun i hi => ?_⟩
  obtain ⟨q1, q2, q3, q4, q5⟩ := h3 i hi
  unfold numB at *
  exact ⟨q1.1, q2, by omega, q4, q5⟩
theorem ldE_okD {E : List Int} {l : List Maker} (h : ldE E l = 0) : okD 2199023255552 l.length ⟨E, l.map Maker.pl⟩ := by
  obtain ⟨h1, h2, h3⟩ := ldE_ok h
  refine ⟨h1, h2, ?_, ?_, ?_, by simp⟩
  · show (l.map Maker.pl).Pairwise bfr
    rw [List.pairwise_map]
    exact srt_of fun i hi h0 => (h3 i hi).1 h0
  · intro x hx
    obtain ⟨y, hy, rfl⟩ := List.mem_map.1 hx
    obtain ⟨i, hi, rfl⟩ := List.getElem_of_mem hy
    exact (h3 i hi).2.1
  · intro x hx
    obtain ⟨y, hy, rfl⟩ := List.mem_map.1 hx
    obtain ⟨i, hi, rfl⟩ := List.getElem_of_mem hy
    exact rowB_K (h3 i hi).2.2.2
theorem ep_cell {E : List Int} {id : Int} (h : (id - 1).toNat < E.length) : (Lies.enc E[(id - 1).toNat])[0]? = some (.int .i64 (ep E id)) := by
  unfold ep
  rw [List.getElem?_eq_getElem h]
  rfl
theorem put_take {E : List Int} {l : List Maker} {j : Nat} (hj : j < l.length) (hok : ∀ (i : Nat) (h : i < l.length), i < j + 1 → mkAt E l i h) {Hs : List Maker} {s : Maker} (hs : s.pl = l[j].pl) (hH : Hs.map Maker.pl = (l.take j).map Maker.pl) : (ePut Hs s).map Maker.pl = (l.take (j + 1)).map Maker.pl := by
  have hsr : (l.take (j + 1)).Pairwise bfr := by
    refine srt_of fun i hi h0 => ?_
    rw [List.length_take] at hi
    rw [List.getElem_take, List.getElem_take]
    exact (hok i (by omega) (by omega)).1 h0
  rw [ePut_pl, hH, hs, ← ePut_pl, ePut_take hj hsr]
set_option maxRecDepth 20000 in
set_option maxHeartbeats 1600000 in
theorem pLoad (w0 : World) (aE : Option Addr) (cE : Nat) (E0 : List Int) (hE0 : Sl w0 aE E0) (hE0l : E0.length ≤ 1000000) (aL : Option Addr) (cL : Nat) (l : List Maker) (hl : Sl w0 aL l) (hll : l.length ≤ 100000) (hrows : ∀ x ∈ l, Sl w0 x.la x.last ∧ x.last.length ≤ x.lc) :
    Ct Try.prog 9 #[.slice aE E0.length cE, .slice aL l.length cL] w0 fun v w' => (∃ p : Option Addr, v = .tuple #[.pointer p, .int .i64 (ldE E0 l)] ∧ (ldE E0 l = 0 → ∃ i Z, p = some ⟨i, 0, none⟩ ∧ Tg w0.heap.size w' i Z ⟨E0, l.map Maker.pl⟩) ∧ (ldE E0 l ≠ 0 → p = none)) ∧ Ext w0 w' := by
  refine Ct.intro2 Try.func9 Try.ntmps9 rfl rfl (by decide) rfl ?_
  have H : Ext w0 w0 := Ext.refl w0
  refine WP.regionS ?_
  refine RL.r (asgP rfl) rfl ?_
  refine RL.r (asgI rfl) rfl ?_
  refine RL.nil ?_
  refine WP.seq ?_
  refine WP.block ?_
  refine WP.regionS ?_
  refine RL.r (mvL rfl) rfl ?_
  refine RL.r (len_sl rfl) rfl ?_
  refine RL.r (gtr rfl rfl) rfl ?_
  refine RL.r (asgB rfl) rfl ?_
  refine RL.nil ?_
  refine WP.cond rfl (fun hc => ?_) (fun hc => ?_)
  · refine WP.regionS ?_
    refine RL.r (asgP rfl) rfl ?_
    refine RL.r (asgI rfl) rfl ?_
    refine RL.nil ?_
    refine WP.ret ?_
    have hE1 : ldE E0 l = 2 := by
      unfold ldE
      rw [if_pos (by omega)]
    refine fin2_ret rfl rfl ⟨⟨none, tupP hE1.symm, fun h => absurd (hE1.symm.trans h) (by decide), fun _ => rfl⟩, H⟩
  · refine WP.regionS ?_
    refine RL.r (mvL rfl) rfl ?_
    -- call slices.ContainsFunc[[]int,int] (tmp 14) (func 28)
    refine RL.call (pContI _ aE cE E0 (hE0.ext H) hE0l) rfl rfl ?_
    rintro _ w1 ⟨rfl, hx⟩
    replace H := H.ext hx
    refine RL.r (asgB rfl) rfl ?_
    refine RL.nil ?_
    refine WP.cond rfl (fun hc => ?_) (fun hc => ?_)
    · refine WP.regionS ?_
      refine RL.r (asgP rfl) rfl ?_
      refine RL.r (asgI rfl) rfl ?_
      refine RL.nil ?_
      refine WP.ret ?_
      have hE1 : ldE E0 l = 1 := by
        unfold ldE
        rw [if_neg (by omega), if_pos hc]
      refine fin2_ret rfl rfl ⟨⟨none, tupP hE1.symm, fun h => absurd (hE1.symm.trans h) (by decide), fun _ => rfl⟩, H⟩
    · refine WP.skip ?_
      refine WP.regionS ?_
      -- call stagecoach/dedup.New 
      have hsA := H.size
      refine RL.call (pNew _) rfl rfl ?_
      rintro v w2 ⟨⟨it, m, rfl, hbt, hm⟩, hx⟩
      replace H := H.ext hx
      replace hbt := Box.mono hbt hsA
      replace hm := hm.mono hsA
      refine RL.r (asgP rfl) rfl ?_
      refine RL.nil ?_
      refine WP.regionS ?_
      refine RL.r (mvP rfl) rfl ?_
      refine RL.r (mvL rfl) rfl ?_
      -- call slices.Clone[[]int,int] (tmp 18)
      have hsB := H.size
      refine RL.call (pCloneI _ aE cE E0 (hE0.ext H) hE0l) rfl rfl ?_
      rintro v w3 ⟨⟨aC, cC, rfl, hE⟩, hx⟩
      replace H := H.ext hx; replace hbt := hbt.ext hx; replace hm := hm.ext hx
      replace hE := hE.mono hsB
      refine RL.r (nilck rfl) rfl ?_
      refine RL.r (fa_box rfl) rfl ?_
      have hbt_0 := hbt
      refine RL.store1 rfl hbt rfl rfl rfl rfl ?_
      intro w4 hu hbt
      replace hm := hm.upd hu (hm.neb hbt_0)
      replace hE := hE.upd hu (fun j hj e => hE.box_apart hbt_0 (by decide) (e ▸ hj))
      replace H := H.box hu hbt.old
      refine RL.nil ?_
      refine WP.seq ?_
      refine WP.regionS ?_
      refine RL.r (mvL rfl) rfl ?_
      refine RL.r (len_sl rfl) rfl ?_
      refine RL.r (mvI rfl) rfl ?_
      refine RL.nil ?_
      refine WP.block ?_
      refine WP.loop (fun k e' w' => ∃ j : Nat, ∃ (Hs : List Maker) (lb : List (DKey × Value × Nat)) (cc : Nat),  j + k = l.length ∧ Head [4, 5, 7, 8, 24, 25, 26, 27, 28, 29, 30, 31, 32, 33, 34, 35, 36, 37, 38, 39, 40, 41, 42, 43, 44, 45, 46, 47, 48, 49, 50, 51, 52, 53, 54, 55, 56, 57, 58, 59, 60, 61, 62, 63, 64, 65, 66, 67, 68, 69, 70, 71, 72, 73, 74, 75, 76, 77, 78, 79, 80] _ [(24, .int .i64 (j : Int))] e' ∧ Ext w0 w' ∧ Box w0.heap.size w' it 71 [.slice aC E0.length cC, .map (some m)] ∧ MpD w0.heap.size w' m lb cc ∧ Rep lb Hs ∧ Own w0.heap.size w' 3 aC cC E0 ∧ OwnsD w0.heap.size w' Hs ∧ Hs.map Maker.pl = (l.take j).map Maker.pl ∧ ∀ (i : Nat) (h : i < l.length), i < j → mkAt E0 l i h) (l.length)
        ⟨0, [], [], 0, by omega, Head.intro (AgreeOff.refl _ _) ⟨rfl, trivial⟩, H, hbt, hm, List.Perm.refl _, hE, OwnsD.nil _ _, rfl, fun i h hi => by omega⟩ ?_
      clear H hbt hm hE
      rintro k e w5 ⟨j, Hs, lb, cc, hjk, ⟨jk, rfl⟩, H, hbt, hm, hr, hE, hO, hHs, hok⟩
      refine WP.regionS ?_
      refine RL.r (lss rfl rfl) rfl ?_
      refine RL.nil ?_
      refine WP.seq ?_
      refine WP.cond rfl (fun hc => ?_) (fun hc => ?_)
      · refine WP.skip ?_
        refine WP.seq ?_
        refine WP.block ?_
        refine WP.regionS ?_
        refine RL.r (mvI rfl) rfl ?_
        have hj : j < l.length := by omega
        have hj1 : j - 1 < l.length := by omega
        have hnodm := hm.nod
        refine RL.r (ix_o rfl rfl rfl hj (hl.someA (by decide) hj)) rfl ?_
        refine RL.m (ldS_o0 rfl hl H rfl rfl hj (by decide)) rfl ?_
        refine RL.alloc w0.heap.size H.size rfl rfl ?_
        intro w6 i8 hi8 hx hb8
        have net_8 := hbt.ne hi8
        refine RL.r (asgI rfl) rfl ?_
        refine RL.storeS rfl hb8 rfl rfl rfl rfl ?_
        intro w7 hu hb8
        replace hx := hx.box hu (Nat.le_of_eq hi8.symm)
        replace H := H.ext hx; replace hbt := hbt.ext hx; replace hm := hm.ext hx; replace hE := hE.ext hx; replace hO := hO.ext hx; clear hx hu
        refine RL.nil ?_
        refine WP.seq ?_
        refine WP.seq ?_
        refine WP.draw (by kernel_rfl) ?_
        refine QL.r (mvI rfl) rfl ?_
        refine QL.r (gtr rfl rfl) rfl ?_
        refine QL.r (mvB rfl) rfl ?_
        refine QL.gg (gwT rfl rfl) (fun hg => (mvL rfl).does _) rfl ?_
        refine QL.gg (gwT rfl rfl) (fun hg => (mvI rfl).does _) rfl ?_
        refine QL.gg (gwT rfl rfl) (fun hg => (sub (gs hg rfl) rfl (by first | omega | (have h8 : isD E0 l[j].id := (Classical.byContradiction fun h9 => hg (.inr h9)); unfold isD at h8; omega))).does _) rfl ?_
        refine QL.gg (gwT rfl rfl) (fun hg => (ix_o (gs hg rfl) (gs hg rfl) (show ((j : Int) - 1) = ((j - 1 : Nat) : Int) by omega) hj1 (hl.someA (by decide) hj1)).does _) rfl ?_
        refine QL.gg (gwT rfl rfl) (fun hg => ldS_o0 (gs hg rfl) hl H rfl rfl hj1 (by decide)) rfl ?_
        refine QL.gg (gwT rfl rfl) (fun hg => ldS_box rfl hb8 (Nat.le_of_ble_eq_true rfl) rfl) rfl ?_
        -- call stagecoach/dedup.order (tmp 36) (tmp 37)
        refine QL.gcall (gwT rfl rfl) (fun hg w' hw' => pOrder w' _ _) (fun hg => EvL.cons (gs hg rfl) (EvL.cons (gs hg rfl) (EvL.nil))) rfl ?_
        refine QL.gg (gwT rfl rfl) (fun hg => (geq (gs hg rfl) rfl).does _) rfl ?_
        refine QL.r (pickAnd rfl (fun hn => gs hn rfl)) rfl ?_
        refine QL.r (mvB rfl) rfl ?_
        refine QL.gg (gwF rfl rfl) (fun hg => (mvP rfl).does _) rfl ?_
        refine QL.gg (gwF rfl rfl) (fun hg => (fa_box rfl).does _) rfl ?_
        refine QL.gg (gwF rfl rfl) (fun hg => ld_box (gs hg rfl) hb8 rfl) rfl ?_
        -- call (*stagecoach/dedup.Table).is (tmp 42) (tmp 44)
        refine QL.gcall (gwF rfl rfl) (fun hg w' hw' => pIs w' _ it aC cC m E0 (hbt.ext hw') l[j].id) (fun hg => EvL.cons (gs hg rfl) (EvL.cons (gs hg rfl) (EvL.nil))) rfl ?_
        first | refine QL.gg (gwF rfl rfl) (fun hg => (notD (gs hg rfl)).does _) rfl ?_ | refine QL.gg (gwF rfl rfl) (fun hg => (not_ (gs hg rfl)).does _) rfl ?_
        refine QL.r (pickOr rfl (fun hn => gs hn rfl)) rfl ?_
        refine QL.r (mvB rfl) rfl ?_
        refine QL.gg (gwF rfl rfl) (fun hg => (fa_box rfl).does _) rfl ?_
        refine QL.gg (gwF rfl rfl) (fun hg => ld_box (gs hg rfl) hb8 rfl) rfl ?_
        refine QL.gg (gwF rfl rfl) (fun hg => (mvP rfl).does _) rfl ?_
        refine QL.gg (gwF rfl rfl) (fun hg => (nilck (gs hg rfl)).does _) rfl ?_
        refine QL.gg (gwF rfl rfl) (fun hg => (fa_box (gs hg rfl)).does _) rfl ?_
        refine QL.gg (gwF rfl rfl) (fun hg => ld_box (gs hg rfl) hbt rfl) rfl ?_
        refine QL.gg (gwF rfl rfl) (fun hg => (fa_box rfl).does _) rfl ?_
        refine QL.gg (gwF rfl rfl) (fun hg => ld_box (gs hg rfl) hb8 rfl) rfl ?_
        refine QL.gg (gwF rfl rfl) (fun hg => (sub (gs hg rfl) rfl (by first | omega | (have h8 : isD E0 l[j].id := (Classical.byContradiction fun h9 => hg (.inr h9)); unfold isD at h8; omega))).does _) rfl ?_
        refine QL.gg (gwF rfl rfl) (fun hg => (ix_o (gs hg rfl) (gs hg rfl) (show l[j].id - 1 = (((l[j].id - 1).toNat : Nat) : Int) by have h8 : isD E0 l[j].id := (Classical.byContradiction fun h9 => hg (.inr h9)); unfold isD at h8; omega) (show (l[j].id - 1).toNat < E0.length by have h8 : isD E0 l[j].id := (Classical.byContradiction fun h9 => hg (.inr h9)); unfold isD at h8; omega) (hE.sl.someA (i := (l[j].id - 1).toNat) (by decide) (show (l[j].id - 1).toNat < E0.length by have h8 : isD E0 l[j].id := (Classical.byContradiction fun h9 => hg (.inr h9)); unfold isD at h8; omega))).does _) rfl ?_
        refine QL.gg (gwF rfl rfl) (fun hg => ld_o0 (gs hg rfl) hE.sl (Ext.refl _) rfl (show (l[j].id - 1).toNat < E0.length by have h8 : isD E0 l[j].id := (Classical.byContradiction fun h9 => hg (.inr h9)); unfold isD at h8; omega) (ep_cell _) (by decide)) rfl ?_
        refine QL.gg (gwF rfl rfl) (fun hg => (neq (gs hg rfl) (gs hg rfl)).does _) rfl ?_
        refine QL.r (pickOr rfl (fun hn => gs hn rfl)) rfl ?_
        refine QL.r (mvB rfl) rfl ?_
        refine QL.gg (gwF rfl rfl) (fun hg => (fa_box rfl).does _) rfl ?_
        refine QL.gg (gwF rfl rfl) (fun hg => ld_box (gs hg rfl) hb8 rfl) rfl ?_
        -- call stagecoach/dedup.row (tmp 64)
        have hRw : ∀ w', Ext w7 w' → Ct Try.prog 33 #[.slice l[j].la l[j].last.length l[j].lc] w' fun v w'' => v = .bool (decide (rowB l[j].last)) ∧ Ext w' w'' := fun w' hw' => pRow w' l[j].la l[j].lc l[j].last ((hrows _ (List.getElem_mem hj)).1.ext (H.ext hw')) (hrows _ (List.getElem_mem hj)).2
        refine QL.gcall (gwF rfl rfl) (fun hg w' hw' => hRw w' hw') (fun hg => EvL.cons (gs hg rfl) (EvL.nil)) rfl ?_
        first | refine QL.gg (gwF rfl rfl) (fun hg => (notD (gs hg rfl)).does _) rfl ?_ | refine QL.gg (gwF rfl rfl) (fun hg => (not_ (gs hg rfl)).does _) rfl ?_
        refine QL.r (pickOr rfl (fun hn => gs hn rfl)) rfl ?_
        refine QL.nil ?_; intro w11 hx; replace H := H.ext hx; replace hbt := hbt.ext hx; replace hb8 := hb8.ext hx; replace hm := hm.ext hx; replace hE := hE.ext hx; replace hO := hO.ext hx
        refine WP.cond rfl (fun hc => ?_) (fun hc => ?_)
        · refine WP.regionS ?_
          refine RL.r (asgP rfl) rfl ?_
          refine RL.r (asgI rfl) rfl ?_
          refine RL.nil ?_
          refine WP.ret ?_
          have hE1 : ldE E0 l = 1 := by
            unfold ldE
            rw [if_neg (by omega), if_neg (by assumption), if_neg]
            intro hall
            obtain ⟨q1, q2, q3, q4⟩ := hall j hj
            rcases hc with ((⟨h0, h1⟩ | h1) | h1) | h1
            · have := (ordMk_lt _ _).2 (q1 (by omega))
              omega
            · exact h1 q2
            · exact h1 q3
            · exact h1 q4
          refine fin2_ret rfl rfl ⟨⟨none, tupP hE1.symm, fun h => absurd (hE1.symm.trans h) (by decide), fun _ => rfl⟩, H⟩
        · refine WP.skip ?_
          refine WP.any ?_
          intro w12 hx; replace H := H.ext hx; replace hbt := hbt.ext hx; replace hb8 := hb8.ext hx; replace hm := hm.ext hx; replace hE := hE.ext hx; replace hO := hO.ext hx
          refine AL.p 0 (by kernel_rfl) rfl (mvP rfl) rfl ?_
          refine AL.p 1 (by kernel_rfl) rfl (nilck rfl) rfl ?_
          refine AL.p 2 (by kernel_rfl) rfl (fa_box rfl) rfl ?_
          refine AL.p 4 (by kernel_rfl) rfl (fa_box rfl) rfl ?_
          refine AL.p 6 (by kernel_rfl) rfl (fa_box rfl) rfl ?_
          refine AL.p 9 (by kernel_rfl) rfl (fa_box rfl) rfl ?_
          refine AL.m 10 (by kernel_rfl) rfl (ld_box rfl hb8 rfl) rfl ?_
          -- call slices.Clone[[]stagecoach/api.Did,stagecoach/api.Did] (tmp 78)
          have hgood : mkAt E0 l j hj := by
            refine ⟨fun h0 => ?_, Classical.byContradiction fun h => hc (.inl (.inl (.inr h))), Classical.byContradiction fun h => hc (.inl (.inr h)), Classical.byContradiction fun h => hc (.inr h)⟩
            refine (ordMk_lt _ _).1 (Int.not_le.1 fun h => hc (.inl (.inl (.inl ⟨by omega, h⟩))))
          have hrl : l[j].last.length ≤ 5 := hgood.2.2.2.2.1
          have hsC := H.size
          have hlt := fun (y : Maker) (hy : y ∈ Hs) (j : Nat) (hj : inBlock y.la j) => ((hO.own y hy).blk hj).2
          have hCl : ∀ w', Ext w12 w' → Ct Try.prog 34 #[.slice l[j].la l[j].last.length l[j].lc] w' fun v w'' => (∃ a' c', v = .slice a' l[j].last.length c' ∧ Own w'.heap.size w'' 53 a' c' l[j].last) ∧ Ext w' w'' := fun w' hw' => pCloneD w' l[j].la l[j].lc l[j].last ((hrows _ (List.getElem_mem hj)).1.ext (H.ext hw')) (by omega)
          refine AL.x 11 (by kernel_rfl) rfl rfl (fun w' hw' => hCl w' hw') ?_
          refine AX.m 3 (by kernel_rfl) rfl rfl (ld_box rfl hbt rfl) rfl ?_
          refine AX.m 5 (by kernel_rfl) rfl rfl (ld_box rfl hb8 rfl) rfl ?_
          refine AX.m 7 (by kernel_rfl) rfl rfl (ldS_box rfl hb8 (Nat.le_of_ble_eq_true rfl) rfl) rfl ?_
          refine AX.m 8 (by kernel_rfl) rfl rfl (Pure.does (bld rfl rfl) _) rfl ?_
          refine AX.o (by kernel_rfl) rfl ?_
          rintro v w13 ⟨⟨a9, c9, rfl, hC⟩, hx⟩
          replace H := H.ext hx; replace hbt := hbt.ext hx; replace hb8 := hb8.ext hx; replace hm := hm.ext hx; replace hE := hE.ext hx; replace hO := hO.ext hx
          refine AL.o 12 (by kernel_rfl) rfl ?_
          refine RL.updM (k := ⟨l[j].id, l[j].part⟩) (v := .slice a9 l[j].last.length c9) rfl hm rfl rfl ?_
          intro w14 hu hm2
          replace hbt := hbt.upd hu (fun e => hm.neb hbt e.symm)
          replace hb8 := hb8.upd hu (fun e => hm.neb hb8 e.symm)
          replace hE := hE.upd hu (fun j hj e => hm.nea hE (e ▸ hj))
          replace hO := hO.mp hm hu
          replace hC := hC.upd hu (fun j hj e => hm.nea hC (e ▸ hj))
          replace H := H.mp hu hm.old
          have htl := tl_put (s := (⟨l[j].id, 0, l[j].part, a9, c9, l[j].last⟩ : Maker)) hbt hE hm2 hr hnodm (hO.sub List.filter_sublist) (hC.mono hsC) _ (fun x hx j hj => hlt x hx j hj) (fun j hj => (hC.blk hj).1)
          refine RL.nil ?_
          refine AL.nil (by kernel_rfl) ?_
          refine WP.region ?_
          refine RL.r (add rfl rfl (by omega)) rfl ?_
          refine RL.r (mvI rfl) rfl ?_
          refine RL.nil ?_
          have hok2 : ∀ (i : Nat) (h : i < l.length), i < j + 1 → mkAt E0 l i h := by
            intro i h hi
            by_cases hij : i < j
            · exact hok i h hij
            · obtain rfl : i = j := by omega
              exact hgood
          refine ⟨k - 1, by omega, j + 1, _, _, _, by omega, Head.intro (by repeat (first | with_reducible exact AgreeOff.mix _ _ _ | refine AgreeOff.look rfl ?_ | refine AgreeOff.mixs rfl ?_)) ⟨rfl, trivial⟩, H, hbt, hm2, rep_put (m := (⟨l[j].id, 0, l[j].part, a9, c9, l[j].last⟩ : Maker)) hr hnodm _, hE, htl.own, put_take hj hok2 rfl hHs, hok2⟩
      · refine WP.exit ?_
        refine WP.regionS ?_
        refine RL.r (mvP rfl) rfl ?_
        refine RL.r (asgP rfl) rfl ?_
        refine RL.r (asgI rfl) rfl ?_
        refine RL.nil ?_
        refine WP.ret ?_
        have hall : l.take j = l := List.take_of_length_le (by omega)
        have hE1 : ldE E0 l = 0 := ldE_0 (by omega) (Classical.not_not.1 (by assumption)) (fun i h => hok i h (by omega))
        rw [hall] at hHs
        refine fin2_ret rfl rfl ⟨⟨_, tupP hE1.symm, fun _ => ⟨it, _, rfl, m, aC, cC, Hs, ⟨hbt, hE, ⟨lb, cc, hm, hr⟩, hO⟩, hHs, rfl⟩, fun h => absurd hE1 h⟩, H⟩
end Go.Proofs.Ytbggmjnhfacjpaa
