/-
  DedupLoads: Load of a slice that may be empty anywhere; the walk.
-/
import Derived.Test.YtbggmjnhfacjpaaDoes08
set_option linter.unusedVariables false
namespace Go.Proofs.Ytbggmjnhfacjpaa
open Go Go.Eng Go.RowKit
section
variable {P : Program} {n : Nat} {ops : Array Oper} {l : List Oper} {K : Env → World → Prop} {el : List (Nat × Value)} {b : Env} {w : World} {dt : Nat} {ty : TypeId} {pos : String} {after : Array Edge}
/-- append of a slice that is read where there is anything to read -/
theorem RL.appendI {α : Type} [Lies α] {t elem : TypeId} {sz by_ : Nat} {z : Value} [hu : Und P t (.slice elem)] [hi : Inf P elem sz by_ z] {x y : Operand} {B : Nat} {a : Option Addr} {c m cm : Nat} {l' new : List α} {p : Option Addr}
    (hx : ev (Eng.look el b) x = .slice a l'.length c) (hown : Own B w elem a c l') (hB : B ≤ w.heap.size) (hy : ev (Eng.look el b) y = .slice p m cm) (hnew : SlI w p new) (hm : new.length = m)
    (hsz : Lies.sz α = sz) (hsz0 : 0 < sz) (hzs : z.cells.size = sz) (h1 : ∀ (y : α) v, v ∈ Lies.enc y → v.oneCell' = true) (hlen : (l'.length + m) * by_ ≤ 140737488355328) (hlen' : l'.length + m ≤ maxLen) (hd : Nat.blt dt n = true)
    (k : ∀ w' a' c', Upd (inBlock a) w w' → Own B w' elem a' c' (l' ++ new) → Fr w a a' → RL P n ops l K (Eng.look ((dt, .slice a' (l' ++ new).length c') :: el) b) w') :
    RL P n ops (⟨some dt, .call { callee := .builtin .append, args := #[x, y], argTypes := #[t, t] }, ty, pos, after, none⟩ :: l) K (Eng.look el b) w := by
  by_cases hne : new = []
  · cases p with
    | none => subst hne; exact RL.appendS hx hown hB hy (Sl.nil w) hm hsz hsz0 hzs h1 hlen hlen' hd k
    | some p =>
      obtain ⟨i, h2, h3, h4, h5⟩ := hi.h
      obtain ⟨v', w', hr, hown', hg, _, hfr⟩ := run_append_own_at (P := P) w B t ty elem i z sz by_ hu.h h2 h5 h3 h4 hzs hsz0 (.slice a l'.length c) l'.length (l'.flatMap Lies.enc) (by rw [← hsz]; exact hown) p m cm (new.flatMap Lies.enc)
        (by rw [flatMap_length Lies.len, hm, hsz]) (fun j u hj => by rw [hne] at hj; simp at hj) (fun u hu => by obtain ⟨y, _, hy⟩ := List.mem_flatMap.1 hu; exact h1 y u hy) hlen' hlen hB
      have hown2 : w'.ownsRow B elem (Lies.sz α) v' (l' ++ new).length ((l' ++ new).flatMap Lies.enc) := by
        rw [List.flatMap_append, List.length_append, hm, hsz]; exact hown'
      obtain ⟨a', c', rfl, hO⟩ := own_form hown2
      refine RL.val' (w' := w') (fun _ _ => wanted_none rfl _) hd (by simp [execOp, resolve, invoke, builtin, hx, hy, hr]) (k w' a' c' (Upd.of_grownBy (by rw [← ownBlock_slice a l'.length c]; exact hg) (run_drawn P hr)) hO ?_)
      · rintro k ⟨p', rfl, rfl⟩
        rw [ownBlock_slice, ownBlock_slice] at hfr
        rcases hfr with h | h
        · cases a with
          | none => cases h
          | some q => exact .inl ⟨q, rfl, (Option.some.inj h).symm⟩
        · exact .inr (Option.some.inj h)
  · exact RL.appendS hx hown hB hy (hnew hne) hm hsz hsz0 hzs h1 hlen hlen' hd k
end
theorem SlI.ext {α : Type} [Lies α] {w w' : World} {a : Option Addr} {l : List α} (h : SlI w a l) (k : Ext w w') : SlI w' a l := fun hne => (h hne).ext k
theorem SlI.pre {α : Type} [Lies α] {w : World} {a : Option Addr} {l : List α} (h : SlI w a l) (n : Nat) : SlI w a (l.take n) := fun hne => (h (fun e => hne (by rw [e]; exact List.take_nil ..))).pre n
theorem pCloneII (w0 : World) (a : Option Addr) (c : Nat) (l : List Int) (hl : SlI w0 a l) (hlen : l.length ≤ 1000000) :
    Ct Try.prog 30 #[.slice a l.length c] w0 fun v w' => (∃ a' c', v = .slice a' l.length c' ∧ Own w0.heap.size w' 3 a' c' l) ∧ Ext w0 w' := by
  refine Ct.intro1 Try.func30 Try.ntmps30 rfl rfl (by decide) rfl ?_
  have H : Ext w0 w0 := Ext.refl w0
  refine WP.regionS ?_
  refine RL.r (asgL rfl) rfl ?_
  refine RL.nil ?_
  refine WP.seq ?_
  refine WP.regionS ?_
  refine RL.r (mvL rfl) rfl ?_
  refine RL.r (sleqn rfl rfl) rfl ?_
  refine RL.nil ?_
  refine WP.cond rfl (fun hc => ?_) (fun hc => ?_)
  · refine WP.regionS ?_
    refine RL.r (asgL rfl) rfl ?_
    refine RL.nil ?_
    refine WP.ret ?_
    subst hc
    obtain rfl : l = [] := Classical.byContradiction fun h => h (sl_none (hl h) (by decide))
    refine fin1_ret rfl ⟨⟨none, 0, rfl, Own.nil _ _ _⟩, H⟩
  · refine WP.skip ?_
    refine WP.regionS ?_
    refine RL.build0 (α := Int) w0.heap.size H.size rfl ?_
    intro w1 i5 hi5 hx hb5
    replace H := H.ext hx; clear hx
    refine RL.r (mvL rfl) rfl ?_
    refine RL.appendI rfl hb5 H.size rfl (SlI.ext hl H) rfl rfl (by decide) rfl cell1 (by simp only [List.length_nil]; omega) (by simp only [List.length_nil, maxLen]; omega) rfl ?_
    intro w2 a7 c7 hu hb7 hfr7
    replace H := Ext.own H hb5 hu; clear hu
    refine RL.r (asgL rfl) rfl ?_
    refine RL.nil ?_
    refine WP.ret ?_
    refine fin1_ret rfl ⟨⟨_, _, rfl, hb7⟩, H⟩
theorem pIdxII (w0 : World) (a : Option Addr) (c : Nat) (l : List Int) (hl : SlI w0 a l) (hlen : l.length ≤ 1000000) :
    Ct Try.prog 47 #[.slice a l.length c, .func (.func 28) #[] #[]] w0 fun v w' => (∃ r : Int, v = .int .i64 r ∧ (0 ≤ r ↔ ¬ ∀ e ∈ l, numB e)) ∧ Ext w0 w' := by
  refine Ct.intro1 Try.func47 Try.ntmps47 rfl rfl (by decide) rfl ?_
  have H : Ext w0 w0 := Ext.refl w0
  refine WP.regionS ?_
  refine RL.r (asgI rfl) rfl ?_
  refine RL.nil ?_
  refine WP.seq ?_
  refine WP.regionS ?_
  refine RL.r (mvL rfl) rfl ?_
  refine RL.r (len_sl rfl) rfl ?_
  refine RL.r (mvI rfl) rfl ?_
  refine RL.nil ?_
  refine WP.block ?_
  refine WP.loop (fun k e' w' => ∃ j : Nat,  j + k = l.length ∧ Head [4, 5, 8, 9, 10, 11, 12, 13, 14, 15, 16, 17, 18] _ [(8, .int .i64 (j : Int))] e' ∧ Ext w0 w' ∧ ∀ (i : Nat) (h : i < l.length), i < j → numB l[i]) (l.length)
    ⟨0, by omega, Head.intro (AgreeOff.refl _ _) ⟨rfl, trivial⟩, H, fun i h hi => by omega⟩ ?_
  clear H
  rintro k e w1 ⟨j, hjk, ⟨jk, rfl⟩, H, hok⟩
  refine WP.regionS ?_
  refine RL.r (lss rfl rfl) rfl ?_
  refine RL.nil ?_
  refine WP.seq ?_
  refine WP.cond rfl (fun hc => ?_) (fun hc => ?_)
  · refine WP.skip ?_
    refine WP.seq ?_
    refine WP.block ?_
    refine WP.regionS ?_
    refine RL.r (mvI rfl) rfl ?_
    refine RL.r (asgI rfl) rfl ?_
    refine RL.nil ?_
    refine WP.regionS ?_
    refine RL.r (mvF rfl) rfl ?_
    refine RL.r (mvL rfl) rfl ?_
    refine RL.r (mvI rfl) rfl ?_
    have hj : j < l.length := by omega
    have hl := (hl (List.ne_nil_of_length_pos (by omega)))
    obtain ⟨p, rfl⟩ := hl.isAddr (by decide) hj
    refine RL.r (ix rfl rfl rfl hj) rfl ?_
    refine RL.m (ld_e0 rfl hl H rfl hj rfl) rfl ?_
    -- call VALUE (tmp 11) (tmp 15)
    refine RL.callv0 rfl (pLoad1 _ l[j]) rfl rfl ?_
    rintro _ w2 ⟨rfl, hx⟩
    replace H := H.ext hx
    refine RL.nil ?_
    refine WP.cond rfl (fun hc => ?_) (fun hc => ?_)
    · refine WP.regionS ?_
      refine RL.r (mvI rfl) rfl ?_
      refine RL.r (asgI rfl) rfl ?_
      refine RL.nil ?_
      refine WP.ret ?_
      refine fin1_ret rfl ⟨⟨_, rfl, ⟨fun _ h => hc (h _ (List.getElem_mem hj)), fun _ => by omega⟩⟩, H⟩
    · refine WP.skip ?_
      refine WP.region ?_
      refine RL.r (add rfl rfl (by omega)) rfl ?_
      refine RL.r (mvI rfl) rfl ?_
      refine RL.nil ?_
      refine ⟨k - 1, by omega, j + 1, by omega, Head.intro (by repeat (first | with_reducible exact AgreeOff.mix _ _ _ | refine AgreeOff.look rfl ?_ | refine AgreeOff.mixs rfl ?_)) ⟨rfl, trivial⟩, H, fun i h hi => ?_⟩
      by_cases hij : i < j
      · exact hok i h hij
      · obtain rfl : i = j := by omega
        exact Classical.not_not.1 hc
  · refine WP.exit ?_
    refine WP.regionS ?_
    refine RL.r (asgI rfl) rfl ?_
    refine RL.nil ?_
    refine WP.ret ?_
    refine fin1_ret rfl ⟨⟨_, rfl, ⟨fun h => by omega, fun h => absurd (fun e he => ?_) h⟩⟩, H⟩
    obtain ⟨i, hi, rfl⟩ := List.getElem_of_mem he
    exact hok i hi (by omega)
theorem pContII (w0 : World) (a : Option Addr) (c : Nat) (l : List Int) (hl : SlI w0 a l) (hlen : l.length ≤ 1000000) :
    Ct Try.prog 27 #[.slice a l.length c, .func (.func 28) #[] #[]] w0 fun v w' => v = .bool (decide (¬ ∀ e ∈ l, numB e)) ∧ Ext w0 w' := by
  refine Ct.intro1 Try.func27 Try.ntmps27 rfl rfl (by decide) rfl ?_
  have H : Ext w0 w0 := Ext.refl w0
  refine WP.regionS ?_
  refine RL.r (asgB rfl) rfl ?_
  refine RL.nil ?_
  refine WP.regionS ?_
  refine RL.r (mvL rfl) rfl ?_
  refine RL.r (mvF rfl) rfl ?_
  -- call slices.IndexFunc[[]int,int] (tmp 5) (tmp 6)
  refine RL.call (pIdxII _ a c l hl hlen) rfl rfl ?_
  rintro v w1 ⟨⟨r, rfl, hr⟩, hx⟩
  replace H := H.ext hx
  refine RL.r (geq rfl rfl) rfl ?_
  refine RL.r (asgB rfl) rfl ?_
  refine RL.nil ?_
  refine WP.ret ?_
  refine fin1_ret rfl ⟨congrArg Value.bool (bD hr), H⟩
set_option maxRecDepth 20000 in
set_option maxHeartbeats 1600000 in
theorem pLoadI (w0 : World) (aE : Option Addr) (cE : Nat) (E0 : List Int) (hE0 : SlI w0 aE E0) (hE0l : E0.length ≤ 1000000) (aL : Option Addr) (cL : Nat) (l : List Maker) (hl : Sl w0 aL l) (hll : l.length ≤ 100000) (hrows : ∀ x ∈ l, Sl w0 x.la x.last ∧ x.last.length ≤ x.lc) :
    Ct Try.prog 9 #[.slice aE E0.length cE, .slice aL l.length cL] w0 fun v w' => (∃ p : Option Addr, v = .tuple #[.pointer p, .int .i64 (ldE E0 l)] ∧ (ldE E0 l = 0 → ∃ i Z, p = some ⟨i, 0, none⟩ ∧ Tg w0.heap.size w' i Z ⟨E0, l.map Maker.pl⟩) ∧ (ldE E0 l ≠ 0 → p = none)) ∧ Ext w0 w' := by
  refine Ct.intro2 Try.func9 Try.ntmps9 rfl rfl (by decide) rfl ?_
  have H : Ext w0 w0 := Ext.refl w0
  refine WP.regionS ?_
  refine RL.r (asgP rfl) rfl ?_
  refine RL.r (asgI rfl) rfl ?_
  refine RL.nil ?_
  refine WP.seq ?_
  refine WP.block ?_
  refine WP.regionS ?_
  refine RL.r (mvL rfl) rfl ?_
  refine RL.r (len_sl rfl) rfl ?_
  refine RL.r (gtr rfl rfl) rfl ?_
  refine RL.r (asgB rfl) rfl ?_
  refine RL.nil ?_
  refine WP.cond rfl (fun hc => ?_) (fun hc => ?_)
  · refine WP.regionS ?_
    refine RL.r (asgP rfl) rfl ?_
    refine RL.r (asgI rfl) rfl ?_
    refine RL.nil ?_
    refine WP.ret ?_
    have hE1 : ldE E0 l = 2 := by
      unfold ldE
      rw [if_pos (by omega)]
    refine fin2_ret rfl rfl ⟨⟨none, tupP hE1.symm, fun h => absurd (hE1.symm.trans h) (by decide), fun _ => rfl⟩, H⟩
  · refine WP.regionS ?_
    refine RL.r (mvL rfl) rfl ?_
    -- call slices.ContainsFunc[[]int,int] (tmp 14) (func 28)
    refine RL.call (pContII _ aE cE E0 (SlI.ext hE0 H) hE0l) rfl rfl ?_
    rintro _ w1 ⟨rfl, hx⟩
    replace H := H.ext hx
    refine RL.r (asgB rfl) rfl ?_
    refine RL.nil ?_
    refine WP.cond rfl (fun hc => ?_) (fun hc => ?_)
    · refine WP.regionS ?_
      refine RL.r (asgP rfl) rfl ?_
      refine RL.r (asgI rfl) rfl ?_
      refine RL.nil ?_
      refine WP.ret ?_
      have hE1 : ldE E0 l = 1 := by
        unfold ldE
        rw [if_neg (by omega), if_pos hc]
      refine fin2_ret rfl rfl ⟨⟨none, tupP hE1.symm, fun h => absurd (hE1.symm.trans h) (by decide), fun _ => rfl⟩, H⟩
    · refine WP.skip ?_
      refine WP.regionS ?_
      -- call stagecoach/dedup.New 
      have hsA := H.size
      refine RL.call (pNew _) rfl rfl ?_
      rintro v w2 ⟨⟨it, m, rfl, hbt, hm⟩, hx⟩
      replace H := H.ext hx
      replace hbt := Box.mono hbt hsA
      replace hm := hm.mono hsA
      refine RL.r (asgP rfl) rfl ?_
      refine RL.nil ?_
      refine WP.regionS ?_
      refine RL.r (mvP rfl) rfl ?_
      refine RL.r (mvL rfl) rfl ?_
      -- call slices.Clone[[]int,int] (tmp 18)
      have hsB := H.size
      refine RL.call (pCloneII _ aE cE E0 (SlI.ext hE0 H) hE0l) rfl rfl ?_
      rintro v w3 ⟨⟨aC, cC, rfl, hE⟩, hx⟩
      replace H := H.ext hx; replace hbt := hbt.ext hx; replace hm := hm.ext hx
      replace hE := hE.mono hsB
      refine RL.r (nilck rfl) rfl ?_
      refine RL.r (fa_box rfl) rfl ?_
      have hbt_0 := hbt
      refine RL.store1 rfl hbt rfl rfl rfl rfl ?_
      intro w4 hu hbt
      replace hm := hm.upd hu (hm.neb hbt_0)
      replace hE := hE.upd hu (fun j hj e => hE.box_apart hbt_0 (by decide) (e ▸ hj))
      replace H := H.box hu hbt.old
      refine RL.nil ?_
      refine WP.seq ?_
      refine WP.regionS ?_
      refine RL.r (mvL rfl) rfl ?_
      refine RL.r (len_sl rfl) rfl ?_
      refine RL.r (mvI rfl) rfl ?_
      refine RL.nil ?_
      refine WP.block ?_
      refine WP.loop (fun k e' w' => ∃ j : Nat, ∃ (Hs : List Maker) (lb : List (DKey × Value × Nat)) (cc : Nat),  j + k = l.length ∧ Head [4, 5, 7, 8, 24, 25, 26, 27, 28, 29, 30, 31, 32, 33, 34, 35, 36, 37, 38, 39, 40, 41, 42, 43, 44, 45, 46, 47, 48, 49, 50, 51, 52, 53, 54, 55, 56, 57, 58, 59, 60, 61, 62, 63, 64, 65, 66, 67, 68, 69, 70, 71, 72, 73, 74, 75, 76, 77, 78, 79, 80] _ [(24, .int .i64 (j : Int))] e' ∧ Ext w0 w' ∧ Box w0.heap.size w' it 71 [.slice aC E0.length cC, .map (some m)] ∧ MpD w0.heap.size w' m lb cc ∧ Rep lb Hs ∧ Own w0.heap.size w' 3 aC cC E0 ∧ OwnsD w0.heap.size w' Hs ∧ Hs.map Maker.pl = (l.take j).map Maker.pl ∧ ∀ (i : Nat) (h : i < l.length), i < j → mkAt E0 l i h) (l.length)
        ⟨0, [], [], 0, by omega, Head.intro (AgreeOff.refl _ _) ⟨rfl, trivial⟩, H, hbt, hm, List.Perm.refl _, hE, OwnsD.nil _ _, rfl, fun i h hi => by omega⟩ ?_
      clear H hbt hm hE
      rintro k e w5 ⟨j, Hs, lb, cc, hjk, ⟨jk, rfl⟩, H, hbt, hm, hr, hE, hO, hHs, hok⟩
      refine WP.regionS ?_
      refine RL.r (lss rfl rfl) rfl ?_
      refine RL.nil ?_
      refine WP.seq ?_
      refine WP.cond rfl (fun hc => ?_) (fun hc => ?_)
      · refine WP.skip ?_
        refine WP.seq ?_
        refine WP.block ?_
        refine WP.regionS ?_
        refine RL.r (mvI rfl) rfl ?_
        have hj : j < l.length := by omega
        have hj1 : j - 1 < l.length := by omega
        have hnodm := hm.nod
        refine RL.r (ix_o rfl rfl rfl hj (hl.someA (by decide) hj)) rfl ?_
        refine RL.m (ldS_o0 rfl hl H rfl rfl hj (by decide)) rfl ?_
        refine RL.alloc w0.heap.size H.size rfl rfl ?_
        intro w6 i8 hi8 hx hb8
        have net_8 := hbt.ne hi8
        refine RL.r (asgI rfl) rfl ?_
        refine RL.storeS rfl hb8 rfl rfl rfl rfl ?_
        intro w7 hu hb8
        replace hx := hx.box hu (Nat.le_of_eq hi8.symm)
        replace H := H.ext hx; replace hbt := hbt.ext hx; replace hm := hm.ext hx; replace hE := hE.ext hx; replace hO := hO.ext hx; clear hx hu
        refine RL.nil ?_
        refine WP.seq ?_
        refine WP.seq ?_
        refine WP.draw (by kernel_rfl) ?_
        refine QL.r (mvI rfl) rfl ?_
        refine QL.r (gtr rfl rfl) rfl ?_
        refine QL.r (mvB rfl) rfl ?_
        refine QL.gg (gwT rfl rfl) (fun hg => (mvL rfl).does _) rfl ?_
        refine QL.gg (gwT rfl rfl) (fun hg => (mvI rfl).does _) rfl ?_
        refine QL.gg (gwT rfl rfl) (fun hg => (sub (gs hg rfl) rfl (by first | omega | (have h8 : isD E0 l[j].id := (Classical.byContradiction fun h9 => hg (.inr h9)); unfold isD at h8; omega))).does _) rfl ?_
        refine QL.gg (gwT rfl rfl) (fun hg => (ix_o (gs hg rfl) (gs hg rfl) (show ((j : Int) - 1) = ((j - 1 : Nat) : Int) by omega) hj1 (hl.someA (by decide) hj1)).does _) rfl ?_
        refine QL.gg (gwT rfl rfl) (fun hg => ldS_o0 (gs hg rfl) hl H rfl rfl hj1 (by decide)) rfl ?_
        refine QL.gg (gwT rfl rfl) (fun hg => ldS_box rfl hb8 (Nat.le_of_ble_eq_true rfl) rfl) rfl ?_
        -- call stagecoach/dedup.order (tmp 36) (tmp 37)
        refine QL.gcall (gwT rfl rfl) (fun hg w' hw' => pOrder w' _ _) (fun hg => EvL.cons (gs hg rfl) (EvL.cons (gs hg rfl) (EvL.nil))) rfl ?_
        refine QL.gg (gwT rfl rfl) (fun hg => (geq (gs hg rfl) rfl).does _) rfl ?_
        refine QL.r (pickAnd rfl (fun hn => gs hn rfl)) rfl ?_
        refine QL.r (mvB rfl) rfl ?_
        refine QL.gg (gwF rfl rfl) (fun hg => (mvP rfl).does _) rfl ?_
        refine QL.gg (gwF rfl rfl) (fun hg => (fa_box rfl).does _) rfl ?_
        refine QL.gg (gwF rfl rfl) (fun hg => ld_box (gs hg rfl) hb8 rfl) rfl ?_
        -- call (*stagecoach/dedup.Table).is (tmp 42) (tmp 44)
        refine QL.gcall (gwF rfl rfl) (fun hg w' hw' => pIs w' _ it aC cC m E0 (hbt.ext hw') l[j].id) (fun hg => EvL.cons (gs hg rfl) (EvL.cons (gs hg rfl) (EvL.nil))) rfl ?_
        first | refine QL.gg (gwF rfl rfl) (fun hg => (notD (gs hg rfl)).does _) rfl ?_ | refine QL.gg (gwF rfl rfl) (fun hg => (not_ (gs hg rfl)).does _) rfl ?_
        refine QL.r (pickOr rfl (fun hn => gs hn rfl)) rfl ?_
        refine QL.r (mvB rfl) rfl ?_
        refine QL.gg (gwF rfl rfl) (fun hg => (fa_box rfl).does _) rfl ?_
        refine QL.gg (gwF rfl rfl) (fun hg => ld_box (gs hg rfl) hb8 rfl) rfl ?_
        refine QL.gg (gwF rfl rfl) (fun hg => (mvP rfl).does _) rfl ?_
        refine QL.gg (gwF rfl rfl) (fun hg => (nilck (gs hg rfl)).does _) rfl ?_
        refine QL.gg (gwF rfl rfl) (fun hg => (fa_box (gs hg rfl)).does _) rfl ?_
        refine QL.gg (gwF rfl rfl) (fun hg => ld_box (gs hg rfl) hbt rfl) rfl ?_
        refine QL.gg (gwF rfl rfl) (fun hg => (fa_box rfl).does _) rfl ?_
        refine QL.gg (gwF rfl rfl) (fun hg => ld_box (gs hg rfl) hb8 rfl) rfl ?_
        refine QL.gg (gwF rfl rfl) (fun hg => (sub (gs hg rfl) rfl (by first | omega | (have h8 : isD E0 l[j].id := (Classical.byContradiction fun h9 => hg (.inr h9)); unfold isD at h8; omega))).does _) rfl ?_
        refine QL.gg (gwF rfl rfl) (fun hg => (ix_o (gs hg rfl) (gs hg rfl) (show l[j].id - 1 = (((l[j].id - 1).toNat : Nat) : Int) by have h8 : isD E0 l[j].id := (Classical.byContradiction fun h9 => hg (.inr h9)); unfold isD at h8; omega) (show (l[j].id - 1).toNat < E0.length by have h8 : isD E0 l[j].id := (Classical.byContradiction fun h9 => hg (.inr h9)); unfold isD at h8; omega) (hE.sl.someA (i := (l[j].id - 1).toNat) (by decide) (show (l[j].id - 1).toNat < E0.length by have h8 : isD E0 l[j].id := (Classical.byContradiction fun h9 => hg (.inr h9)); unfold isD at h8; omega))).does _) rfl ?_
        refine QL.gg (gwF rfl rfl) (fun hg => ld_o0 (gs hg rfl) hE.sl (Ext.refl _) rfl (show (l[j].id - 1).toNat < E0.length by have h8 : isD E0 l[j].id := (Classical.byContradiction fun h9 => hg (.inr h9)); unfold isD at h8; omega) (ep_cell _) (by decide)) rfl ?_
        refine QL.gg (gwF rfl rfl) (fun hg => (neq (gs hg rfl) (gs hg rfl)).does _) rfl ?_
        refine QL.r (pickOr rfl (fun hn => gs hn rfl)) rfl ?_
        refine QL.r (mvB rfl) rfl ?_
        refine QL.gg (gwF rfl rfl) (fun hg => (fa_box rfl).does _) rfl ?_
        refine QL.gg (gwF rfl rfl) (fun hg => ld_box (gs hg rfl) hb8 rfl) rfl ?_
        -- call stagecoach/dedup.row (tmp 64)
        have hRw : ∀ w', Ext w7 w' → Ct Try.prog 33 #[.slice l[j].la l[j].last.length l[j].lc] w' fun v w'' => v = .bool (decide (rowB l[j].last)) ∧ Ext w' w'' := fun w' hw' => pRow w' l[j].la l[j].lc l[j].last ((hrows _ (List.getElem_mem hj)).1.ext (H.ext hw')) (hrows _ (List.getElem_mem hj)).2
        refine QL.gcall (gwF rfl rfl) (fun hg w' hw' => hRw w' hw') (fun hg => EvL.cons (gs hg rfl) (EvL.nil)) rfl ?_
        first | refine QL.gg (gwF rfl rfl) (fun hg => (notD (gs hg rfl)).does _) rfl ?_ | refine QL.gg (gwF rfl rfl) (fun hg => (not_ (gs hg rfl)).does _) rfl ?_
        refine QL.r (pickOr rfl (fun hn => gs hn rfl)) rfl ?_
        refine QL.nil ?_; intro w11 hx; replace H := H.ext hx; replace hbt := hbt.ext hx; replace hb8 := hb8.ext hx; replace hm := hm.ext hx; replace hE := hE.ext hx; replace hO := hO.ext hx
        refine WP.cond rfl (fun hc => ?_) (fun hc => ?_)
        · refine WP.regionS ?_
          refine RL.r (asgP rfl) rfl ?_
          refine RL.r (asgI rfl) rfl ?_
          refine RL.nil ?_
          refine WP.ret ?_
          have hE1 : ldE E0 l = 1 := by
            unfold ldE
            rw [if_neg (by omega), if_neg (by assumption), if_neg]
            intro hall
            obtain ⟨q1, q2, q3, q4⟩ := hall j hj
            rcases hc with ((⟨h0, h1⟩ | h1) | h1) | h1
            · have := (ordMk_lt _ _).2 (q1 (by omega))
              omega
            · exact h1 q2
            · exact h1 q3
            · exact h1 q4
          refine fin2_ret rfl rfl ⟨⟨none, tupP hE1.symm, fun h => absurd (hE1.symm.trans h) (by decide), fun _ => rfl⟩, H⟩
        · refine WP.skip ?_
          refine WP.any ?_
          intro w12 hx; replace H := H.ext hx; replace hbt := hbt.ext hx; replace hb8 := hb8.ext hx; replace hm := hm.ext hx; replace hE := hE.ext hx; replace hO := hO.ext hx
          refine AL.p 0 (by kernel_rfl) rfl (mvP rfl) rfl ?_
          refine AL.p 1 (by kernel_rfl) rfl (nilck rfl) rfl ?_
          refine AL.p 2 (by kernel_rfl) rfl (fa_box rfl) rfl ?_
          refine AL.p 4 (by kernel_rfl) rfl (fa_box rfl) rfl ?_
          refine AL.p 6 (by kernel_rfl) rfl (fa_box rfl) rfl ?_
          refine AL.p 9 (by kernel_rfl) rfl (fa_box rfl) rfl ?_
          refine AL.m 10 (by kernel_rfl) rfl (ld_box rfl hb8 rfl) rfl ?_
          -- call slices.Clone[[]stagecoach/api.Did,stagecoach/api.Did] (tmp 78)
          have hgood : mkAt E0 l j hj := by
            refine ⟨fun h0 => ?_, Classical.byContradiction fun h => hc (.inl (.inl (.inr h))), Classical.byContradiction fun h => hc (.inl (.inr h)), Classical.byContradiction fun h => hc (.inr h)⟩
            refine (ordMk_lt _ _).1 (Int.not_le.1 fun h => hc (.inl (.inl (.inl ⟨by omega, h⟩))))
          have hrl : l[j].last.length ≤ 5 := hgood.2.2.2.2.1
          have hsC := H.size
          have hlt := fun (y : Maker) (hy : y ∈ Hs) (j : Nat) (hj : inBlock y.la j) => ((hO.own y hy).blk hj).2
          have hCl : ∀ w', Ext w12 w' → Ct Try.prog 34 #[.slice l[j].la l[j].last.length l[j].lc] w' fun v w'' => (∃ a' c', v = .slice a' l[j].last.length c' ∧ Own w'.heap.size w'' 53 a' c' l[j].last) ∧ Ext w' w'' := fun w' hw' => pCloneD w' l[j].la l[j].lc l[j].last ((hrows _ (List.getElem_mem hj)).1.ext (H.ext hw')) (by omega)
          refine AL.x 11 (by kernel_rfl) rfl rfl (fun w' hw' => hCl w' hw') ?_
          refine AX.m 3 (by kernel_rfl) rfl rfl (ld_box rfl hbt rfl) rfl ?_
          refine AX.m 5 (by kernel_rfl) rfl rfl (ld_box rfl hb8 rfl) rfl ?_
          refine AX.m 7 (by kernel_rfl) rfl rfl (ldS_box rfl hb8 (Nat.le_of_ble_eq_true rfl) rfl) rfl ?_
          refine AX.m 8 (by kernel_rfl) rfl rfl (Pure.does (bld rfl rfl) _) rfl ?_
          refine AX.o (by kernel_rfl) rfl ?_
          rintro v w13 ⟨⟨a9, c9, rfl, hC⟩, hx⟩
          replace H := H.ext hx; replace hbt := hbt.ext hx; replace hb8 := hb8.ext hx; replace hm := hm.ext hx; replace hE := hE.ext hx; replace hO := hO.ext hx
          refine AL.o 12 (by kernel_rfl) rfl ?_
          refine RL.updM (k := ⟨l[j].id, l[j].part⟩) (v := .slice a9 l[j].last.length c9) rfl hm rfl rfl ?_
          intro w14 hu hm2
          replace hbt := hbt.upd hu (fun e => hm.neb hbt e.symm)
          replace hb8 := hb8.upd hu (fun e => hm.neb hb8 e.symm)
          replace hE := hE.upd hu (fun j hj e => hm.nea hE (e ▸ hj))
          replace hO := hO.mp hm hu
          replace hC := hC.upd hu (fun j hj e => hm.nea hC (e ▸ hj))
          replace H := H.mp hu hm.old
          have htl := tl_put (s := (⟨l[j].id, 0, l[j].part, a9, c9, l[j].last⟩ : Maker)) hbt hE hm2 hr hnodm (hO.sub List.filter_sublist) (hC.mono hsC) _ (fun x hx j hj => hlt x hx j hj) (fun j hj => (hC.blk hj).1)
          refine RL.nil ?_
          refine AL.nil (by kernel_rfl) ?_
          refine WP.region ?_
          refine RL.r (add rfl rfl (by omega)) rfl ?_
          refine RL.r (mvI rfl) rfl ?_
          refine RL.nil ?_
          have hok2 : ∀ (i : Nat) (h : i < l.length), i < j + 1 → mkAt E0 l i h := by
            intro i h hi
            by_cases hij : i < j
            · exact hok i h hij
            · obtain rfl : i = j := by omega
              exact hgood
          refine ⟨k - 1, by omega, j + 1, _, _, _, by omega, Head.intro (by repeat (first | with_reducible exact AgreeOff.mix _ _ _ | refine AgreeOff.look rfl ?_ | refine AgreeOff.mixs rfl ?_)) ⟨rfl, trivial⟩, H, hbt, hm2, rep_put (m := (⟨l[j].id, 0, l[j].part, a9, c9, l[j].last⟩ : Maker)) hr hnodm _, hE, htl.own, put_take hj hok2 rfl hHs, hok2⟩
      · refine WP.exit ?_
        refine WP.regionS ?_
        refine RL.r (mvP rfl) rfl ?_
        refine RL.r (asgP rfl) rfl ?_
        refine RL.r (asgI rfl) rfl ?_
        refine RL.nil ?_
        refine WP.ret ?_
        have hall : l.take j = l := List.take_of_length_le (by omega)
        have hE1 : ldE E0 l = 0 := ldE_0 (by omega) (Classical.not_not.1 (by assumption)) (fun i h => hok i h (by omega))
        rw [hall] at hHs
        refine fin2_ret rfl rfl ⟨⟨_, tupP hE1.symm, fun _ => ⟨it, _, rfl, m, aC, cC, Hs, ⟨hbt, hE, ⟨lb, cc, hm, hr⟩, hO⟩, hHs, rfl⟩, fun h => absurd hE1 h⟩, H⟩
set_option maxRecDepth 20000 in
set_option maxHeartbeats 3200000 in
theorem rLoadI (w0 : World) (aE : Option Addr) (cE : Nat) (E0 : List Int) (hE0 : SlI w0 aE E0) (hE0l : E0.length ≤ 1000000) (aL : Option Addr) (cL : Nat) (l : List Maker) (hl : Sl w0 aL l) (hll : l.length ≤ 100000) (hrows : ∀ x ∈ l, Sl w0 x.la x.last ∧ x.last.length ≤ x.lc) (hlt : ∀ x ∈ l, x.part.topic.size ≤ 9223372036854775807) :
    Ct Try.prog 10 #[.slice aE E0.length cE, .slice aL l.length cL] w0 fun v w' => (∃ p : Option Addr, v = .tuple #[.pointer p, .int .i64 (ldE E0 l)] ∧ (ldE E0 l = 0 → ∃ i Y, p = some ⟨i, 0, none⟩ ∧ Tr w0.heap.size w' i Y ⟨E0, l.map Maker.pl⟩) ∧ (ldE E0 l ≠ 0 → p = none)) ∧ Ext w0 w' := by
  refine Ct.intro2 Try.func10 Try.ntmps10 rfl rfl (by decide) rfl ?_
  have H : Ext w0 w0 := Ext.refl w0
  refine WP.regionS ?_
  refine RL.r (asgP rfl) rfl ?_
  refine RL.r (asgI rfl) rfl ?_
  refine RL.nil ?_
  refine WP.seq ?_
  refine WP.regionS ?_
  refine RL.r (mvL rfl) rfl ?_
  refine RL.r (len_sl rfl) rfl ?_
  refine RL.r (gtr rfl rfl) rfl ?_
  refine RL.nil ?_
  refine WP.cond rfl (fun hc => ?_) (fun hc => ?_)
  · refine WP.regionS ?_
    refine RL.r (asgP rfl) rfl ?_
    refine RL.r (asgI rfl) rfl ?_
    refine RL.nil ?_
    refine WP.ret ?_
    have hE1 : ldE E0 l = 2 := by
      unfold ldE
      rw [if_pos (by omega)]
    refine fin2_ret rfl rfl ⟨⟨none, tupP hE1.symm, fun h => absurd (hE1.symm.trans h) (by decide), fun _ => rfl⟩, H⟩
  · refine WP.skip ?_
    refine WP.seq ?_
    refine WP.regionS ?_
    refine RL.r (asgI rfl) rfl ?_
    refine RL.nil ?_
    refine WP.block ?_
    refine WP.loop (fun k e' w' => ∃ j : Nat,  j + k = E0.length ∧ Head [4, 5, 6, 12, 13, 14, 15, 16, 17, 18, 19, 20, 21, 22, 23] _ [(6, .int .i64 (j : Int))] e' ∧ Ext w0 w' ∧ ∀ (i : Nat) (h : i < E0.length), i < j → numB E0[i]) (E0.length)
      ⟨0, by omega, Head.intro (AgreeOff.refl _ _) ⟨rfl, trivial⟩, H, fun i h hi => by omega⟩ ?_
    clear H
    rintro k e w1 ⟨j, hjk, ⟨jk, rfl⟩, H, hok1⟩
    refine WP.seq ?_
    refine WP.regionS ?_
    refine RL.r (mvI rfl) rfl ?_
    refine RL.r (mvL rfl) rfl ?_
    refine RL.r (len_sl rfl) rfl ?_
    refine RL.r (lss rfl rfl) rfl ?_
    refine RL.nil ?_
    refine WP.cond rfl (fun hc => ?_) (fun hc => ?_)
    · refine WP.skip ?_
      refine WP.seq ?_
      refine WP.block ?_
      refine WP.regionS ?_
      refine RL.r (mvL rfl) rfl ?_
      refine RL.r (mvI rfl) rfl ?_
      have hj : j < E0.length := by omega
      refine RL.r (ix_o rfl rfl rfl hj ((hE0 (List.ne_nil_of_length_pos (by omega))).someA (by decide) hj)) rfl ?_
      refine RL.m (ld_o0 rfl (hE0 (List.ne_nil_of_length_pos (by omega))) H rfl hj rfl (by decide)) rfl ?_
      -- call stagecoach/stagecoachref03.Num (tmp 21)
      refine RL.call (rNum _ E0[j]) rfl rfl ?_
      rintro _ w2 ⟨rfl, hx⟩
      replace H := H.ext hx
      first | refine RL.r (notD rfl) rfl ?_ | refine RL.r (not_ rfl) rfl ?_
      refine RL.nil ?_
      refine WP.cond rfl (fun hc => ?_) (fun hc => ?_)
      · refine WP.regionS ?_
        refine RL.r (asgP rfl) rfl ?_
        refine RL.r (asgI rfl) rfl ?_
        refine RL.nil ?_
        refine WP.ret ?_
        have hE1 : ldE E0 l = 1 := by
          unfold ldE
          rw [if_neg (by omega), if_pos (fun h => hc (h _ (List.getElem_mem hj)))]
        refine fin2_ret rfl rfl ⟨⟨none, tupP hE1.symm, fun h => absurd (hE1.symm.trans h) (by decide), fun _ => rfl⟩, H⟩
      · refine WP.skip ?_
        refine WP.region ?_
        refine RL.r (mvI rfl) rfl ?_
        refine RL.r (add rfl rfl (by omega)) rfl ?_
        refine RL.r (asgI rfl) rfl ?_
        refine RL.nil ?_
        refine ⟨k - 1, by omega, j + 1, by omega, Head.intro (by repeat (first | with_reducible exact AgreeOff.mix _ _ _ | refine AgreeOff.look rfl ?_ | refine AgreeOff.mixs rfl ?_)) ⟨rfl, trivial⟩, H, fun i h hi => ?_⟩
        by_cases hij : i < j
        · exact hok1 i h hij
        · obtain rfl : i = j := by omega
          exact Classical.not_not.1 hc
    · refine WP.exit ?_
      refine WP.regionS ?_
      refine RL.build0 (α := Int) w0.heap.size H.size rfl ?_
      intro w3 i24 hi24 hx hb24
      replace H := H.ext hx; clear hx
      refine RL.r (mvL rfl) rfl ?_
      have hnum : ∀ e ∈ E0, numB e := fun e he => by
        obtain ⟨i, hi, rfl⟩ := List.getElem_of_mem he
        exact hok1 i hi (by omega)
      refine RL.appendI rfl hb24 H.size rfl (SlI.ext hE0 H) rfl rfl (by decide) rfl cell1 (by simp only [List.length_nil]; omega) (by simp only [List.length_nil, maxLen]; omega) rfl ?_
      intro w4 a26 c26 hu hb26 hfr26
      replace H := Ext.own H hb24 hu; clear hu
      rw [List.nil_append] at hb26 ⊢
      refine RL.r (bld rfl rfl) rfl ?_
      refine RL.boxS w0.heap.size H.size rfl rfl ?_
      intro w5 i28 hi28 hx hb28
      replace H := H.ext hx; replace hb26 := hb26.ext hx; clear hx
      refine RL.r (asgP rfl) rfl ?_
      refine RL.nil ?_
      refine WP.seq ?_
      refine WP.regionS ?_
      refine RL.r (asgI rfl) rfl ?_
      refine RL.nil ?_
      refine WP.block ?_
      refine WP.loop (fun k1 e' w' => ∃ j1 : Nat, ∃ (b2 : Option Addr) (d2 : Nat) (L2 : List Maker),  j1 + k1 = l.length ∧ Head [4, 5, 8, 29, 30, 31, 32, 33, 34, 35, 36, 37, 38, 39, 40, 41, 42, 43, 44, 45, 46, 47, 48, 49, 50, 51, 52, 53, 54, 55, 56, 57, 58, 59, 60, 61, 62, 63, 64, 65, 66, 67, 68, 69, 70, 71, 72, 73, 74, 75, 76, 77, 78, 79, 80, 81, 82, 83, 84, 85, 86, 87, 88, 89, 90, 91, 92, 93, 94, 95, 96, 97, 98, 99, 100] _ [(8, .int .i64 (j1 : Int))] e' ∧ Ext w0 w' ∧ Box w0.heap.size w' i28 65 [.slice a26 E0.length c26, .slice b2 L2.length d2] ∧ Own w0.heap.size w' 3 a26 c26 E0 ∧ Own w0.heap.size w' 33 b2 d2 L2 ∧ DRs w0.heap.size w' L2 ∧ L2.map Maker.mk' = (l.take j1).map Maker.mk' ∧ ∀ (i : Nat) (h : i < l.length), i < j1 → mkAt E0 l i h) (l.length)
        ⟨0, none, 0, [], by omega, Head.intro (AgreeOff.refl _ _) ⟨rfl, trivial⟩, H, hb28, hb26, Own.nil _ _ _, (fun x hx => by cases hx), rfl, fun i h hi => by omega⟩ ?_
      clear H hb28 hb26
      rintro k1 e w6 ⟨j1, b2, d2, L2, hjk1, ⟨jk1, rfl⟩, H, hb28, hE, hL2, hDr, hLm, hok2⟩
      have hL2l : L2.length = min j1 l.length := by have h9 := congrArg List.length hLm; simpa using h9
      refine WP.seq ?_
      refine WP.regionS ?_
      refine RL.r (mvI rfl) rfl ?_
      refine RL.r (mvL rfl) rfl ?_
      refine RL.r (len_sl rfl) rfl ?_
      refine RL.r (lss rfl rfl) rfl ?_
      refine RL.nil ?_
      refine WP.cond rfl (fun hc => ?_) (fun hc => ?_)
      · refine WP.skip ?_
        refine WP.seq ?_
        refine WP.block ?_
        refine WP.seq ?_
        refine WP.seq ?_
        refine WP.draw (by kernel_rfl) ?_
        refine QL.r (mvI rfl) rfl ?_
        refine QL.r (gtr rfl rfl) rfl ?_
        refine QL.r (mvB rfl) rfl ?_
        refine QL.gg (gwT rfl rfl) (fun hg => (mvL rfl).does _) rfl ?_
        refine QL.gg (gwT rfl rfl) (fun hg => (mvI rfl).does _) rfl ?_
        refine QL.gg (gwT rfl rfl) (fun hg => (sub (gs hg rfl) rfl (by omega)).does _) rfl ?_
        have hj : j1 < l.length := by omega
        have hj0 : j1 - 1 < l.length := by omega
        obtain ⟨q, hq⟩ := hl.isAddr (by decide) hj
        subst hq
        refine QL.gg (gwT rfl rfl) (fun hg => (ix_o (gs hg rfl) (gs hg rfl) (show ((j1 : Int) - 1) = ((j1 - 1 : Nat) : Int) by omega) hj0 (hl.someA (by decide) hj0)).does _) rfl ?_
        refine QL.gg (gwT rfl rfl) (fun hg => ldS_o0 (gs hg rfl) hl H rfl rfl hj0 (by decide)) rfl ?_
        refine QL.gg (gwT rfl rfl) (fun hg => (mvL rfl).does _) rfl ?_
        refine QL.gg (gwT rfl rfl) (fun hg => (mvI rfl).does _) rfl ?_
        refine QL.gg (gwT rfl rfl) (fun hg => (ix_o (gs hg rfl) (gs hg rfl) rfl hj (hl.someA (by decide) hj)).does _) rfl ?_
        refine QL.gg (gwT rfl rfl) (fun hg => ldS_o0 (gs hg rfl) hl H rfl rfl hj (by decide)) rfl ?_
        -- call stagecoach/stagecoachref08.Before (tmp 42) (tmp 46)
        have hB1 : ∀ w', Ext w6 w' → Ct Try.prog 22 #[.agg (Lies.enc l[j1 - 1]).toArray, .agg (Lies.enc l[j1]).toArray] w' fun v w'' => v = .bool (decide (bfr l[j1 - 1] l[j1])) ∧ Ext w' w'' := fun w' _ => rBfr w' _ _ (hlt _ (List.getElem_mem hj0))
        refine QL.gcall (gwT rfl rfl) (fun hg w' hw' => hB1 w' hw') (fun hg => EvL.cons (gs hg rfl) (EvL.cons (gs hg rfl) EvL.nil)) rfl ?_
        first | refine QL.gg (gwT rfl rfl) (fun hg => (notD (gs hg rfl)).does _) rfl ?_ | refine QL.gg (gwT rfl rfl) (fun hg => (not_ (gs hg rfl)).does _) rfl ?_
        refine QL.r (pickAnd rfl (fun hn => gs hn rfl)) rfl ?_
        refine QL.r (mvB rfl) rfl ?_
        refine QL.gg (gwF rfl rfl) (fun hg => (mvP rfl).does _) rfl ?_
        refine QL.gg (gwF rfl rfl) (fun hg => (mvL rfl).does _) rfl ?_
        refine QL.gg (gwF rfl rfl) (fun hg => (mvI rfl).does _) rfl ?_
        refine QL.gg (gwF rfl rfl) (fun hg => (ix_o (gs hg rfl) (gs hg rfl) rfl hj (hl.someA (by decide) hj)).does _) rfl ?_
        refine QL.gg (gwF rfl rfl) (fun hg => (fa_el hl.1 (gs hg rfl)).does _) rfl ?_
        refine QL.gg (gwF rfl rfl) (fun hg => ld_el (gs hg rfl) hl H rfl hj rfl) rfl ?_
        -- call (*stagecoach/stagecoachref08.Table).is (tmp 51) (tmp 56)
        have hB2 : ∀ w', Ext w6 w' → Ct Try.prog 36 #[.pointer (some ⟨i28, 0, none⟩), .int .i64 l[j1].id] w' fun v w'' => v = .bool (decide (isD E0 l[j1].id)) ∧ Ext w' w'' := fun w' hw' => rIs w' _ i28 a26 b2 c26 d2 E0 L2 (hb28.ext hw') l[j1].id
        refine QL.gcall (gwF rfl rfl) (fun hg w' hw' => hB2 w' hw') (fun hg => EvL.cons (gs hg rfl) (EvL.cons (gs hg rfl) EvL.nil)) rfl ?_
        first | refine QL.gg (gwF rfl rfl) (fun hg => (notD (gs hg rfl)).does _) rfl ?_ | refine QL.gg (gwF rfl rfl) (fun hg => (not_ (gs hg rfl)).does _) rfl ?_
        refine QL.r (pickOr rfl (fun hn => gs hn rfl)) rfl ?_
        refine QL.r (mvB rfl) rfl ?_
        refine QL.gg (gwF rfl rfl) (fun hg => (mvL rfl).does _) rfl ?_
        refine QL.gg (gwF rfl rfl) (fun hg => (mvI rfl).does _) rfl ?_
        refine QL.gg (gwF rfl rfl) (fun hg => (ix_o (gs hg rfl) (gs hg rfl) rfl hj (hl.someA (by decide) hj)).does _) rfl ?_
        refine QL.gg (gwF rfl rfl) (fun hg => (fa_el hl.1 (gs hg rfl)).does _) rfl ?_
        refine QL.gg (gwF rfl rfl) (fun hg => ld_el (gs hg rfl) hl H rfl hj rfl) rfl ?_
        -- call stagecoach/stagecoachref08.row (tmp 65)
        have hB3 : ∀ w', Ext w6 w' → Ct Try.prog 37 #[.slice l[j1].la l[j1].last.length l[j1].lc] w' fun v w'' => v = .bool (decide (rowB l[j1].last)) ∧ Ext w' w'' := fun w' hw' => rRow w' _ _ _ ((hrows _ (List.getElem_mem hj)).1.ext (H.ext hw'))
        refine QL.gcall (gwF rfl rfl) (fun hg w' hw' => hB3 w' hw') (fun hg => EvL.cons (gs hg rfl) EvL.nil) rfl ?_
        first | refine QL.gg (gwF rfl rfl) (fun hg => (notD (gs hg rfl)).does _) rfl ?_ | refine QL.gg (gwF rfl rfl) (fun hg => (not_ (gs hg rfl)).does _) rfl ?_
        refine QL.r (pickOr rfl (fun hn => gs hn rfl)) rfl ?_
        refine QL.nil ?_; intro w10 hx; replace H := H.ext hx; replace hb28 := hb28.ext hx; replace hE := hE.ext hx; replace hL2 := hL2.ext hx; replace hDr := hDr.ext hx
        refine WP.cond rfl (fun hc => ?_) (fun hc => ?_)
        · refine WP.regionS ?_
          refine RL.r (asgP rfl) rfl ?_
          refine RL.r (asgI rfl) rfl ?_
          refine RL.nil ?_
          refine WP.ret ?_
          have hE1 : ldE E0 l = 1 := by
            unfold ldE
            rw [if_neg (by omega), if_neg (not_not_intro hnum), if_neg]
            intro hall
            obtain ⟨q1, q2, q3, q4⟩ := hall j1 hj
            rcases hc with (⟨h0, h1⟩ | h1) | h1
            · exact h1 (q1 (by omega))
            · exact h1 q2
            · exact h1 q4
          refine fin2_ret rfl rfl ⟨⟨none, tupP hE1.symm, fun h => absurd (hE1.symm.trans h) (by decide), fun _ => rfl⟩, H⟩
        · refine WP.skip ?_
          refine WP.seq ?_
          refine WP.seq ?_
          refine WP.draw (by kernel_rfl) ?_
          refine QL.r (mvL rfl) rfl ?_
          refine QL.r (mvI rfl) rfl ?_
          have hid : isD E0 l[j1].id := Classical.byContradiction fun h => hc (.inl (.inr h))
          obtain ⟨ji, hji, hje, hep⟩ := isD_at hid
          have hid2 := hid
          unfold isD at hid2
          refine QL.r (ix_o rfl rfl rfl hj (hl.someA (by decide) hj)) rfl ?_
          refine QL.r (fa_el hl.1 rfl) rfl ?_
          refine QL.m (ld_el rfl hl H rfl hj rfl) rfl ?_
          refine QL.r (mvP rfl) rfl ?_
          refine QL.r (nilck rfl) rfl ?_
          refine QL.r (fa_box rfl) rfl ?_
          refine QL.m (ld_box rfl hb28 rfl) rfl ?_
          refine QL.r (mvL rfl) rfl ?_
          refine QL.r (mvI rfl) rfl ?_
          refine QL.r (ix_o rfl rfl rfl hj (hl.someA (by decide) hj)) rfl ?_
          refine QL.r (fa_el hl.1 rfl) rfl ?_
          refine QL.m (ld_el rfl hl H rfl hj rfl) rfl ?_
          refine QL.r (sub rfl rfl (by omega)) rfl ?_
          refine QL.r (ix_o rfl rfl hje hji (hE.sl.someA (by decide) hji)) rfl ?_
          refine QL.m (ld_o0 rfl hE.sl (Ext.refl _) rfl hji rfl (by decide)) rfl ?_
          refine QL.r (neq rfl rfl) rfl ?_
          refine QL.nil ?_; intro w11 hx; replace H := H.ext hx; replace hb28 := hb28.ext hx; replace hE := hE.ext hx; replace hL2 := hL2.ext hx; replace hDr := hDr.ext hx
          refine WP.cond rfl (fun hc => ?_) (fun hc => ?_)
          · refine WP.regionS ?_
            refine RL.r (asgP rfl) rfl ?_
            refine RL.r (asgI rfl) rfl ?_
            refine RL.nil ?_
            refine WP.ret ?_
            have hE1 : ldE E0 l = 1 := by
              unfold ldE
              rw [if_neg (by omega), if_neg (not_not_intro hnum), if_neg]
              intro hall
              obtain ⟨q1, q2, q3, q4⟩ := hall j1 hj
              exact hc (by rw [q3, hep])
            refine fin2_ret rfl rfl ⟨⟨none, tupP hE1.symm, fun h => absurd (hE1.symm.trans h) (by decide), fun _ => rfl⟩, H⟩
          · refine WP.skip ?_
            refine WP.any ?_
            intro w12 hx; replace H := H.ext hx; replace hb28 := hb28.ext hx; replace hE := hE.ext hx; replace hL2 := hL2.ext hx; replace hDr := hDr.ext hx
            refine AL.p 0 (by kernel_rfl) rfl (mvP rfl) rfl ?_
            refine AL.p 1 (by kernel_rfl) rfl (mvP rfl) rfl ?_
            refine AL.p 2 (by kernel_rfl) rfl (nilck rfl) rfl ?_
            refine AL.p 3 (by kernel_rfl) rfl (fa_box rfl) rfl ?_
            refine AL.p 5 (by kernel_rfl) rfl (mvL rfl) rfl ?_
            refine AL.p 6 (by kernel_rfl) rfl (mvI rfl) rfl ?_
            refine AL.p 7 (by kernel_rfl) rfl (ix_o rfl rfl rfl hj (hl.someA (by decide) hj)) rfl ?_
            refine AL.m 8 (by kernel_rfl) rfl (ldS_o0 rfl hl H rfl rfl hj (by decide)) rfl ?_
            -- call stagecoach/stagecoachref08.maker (tmp 95)
            have hgood : mkAt E0 l j1 hj := by
              have hco := (by assumption : ¬ (((0 < (j1 : Int) ∧ ¬ bfr l[j1 - 1] l[j1]) ∨ ¬ isD E0 l[j1].id) ∨ ¬ rowB l[j1].last))
              exact ⟨fun h0 => Classical.byContradiction fun h => hco (.inl (.inl ⟨by omega, h⟩)), hid, by rw [hep]; exact Classical.not_not.1 hc, Classical.byContradiction fun h => hco (.inr h)⟩
            have hrl : l[j1].last.length ≤ 5 := hgood.2.2.2.2.1
            have hsC := H.size
            have hMkr : ∀ w', Ext w12 w' → Ct Try.prog 38 #[.agg (Lies.enc l[j1]).toArray] w' fun v w'' => (∃ m' : Maker, v = .agg (Lies.enc m').toArray ∧ m'.mk' = l[j1].mk' ∧ Own w'.heap.size w'' 53 m'.la m'.lc m'.last) ∧ Ext w' w'' := fun w' hw' => rMaker w' l[j1] ((hrows _ (List.getElem_mem hj)).1.ext (H.ext hw')) (by omega)
            refine AL.x 9 (by kernel_rfl) rfl rfl (fun w' hw' => hMkr w' hw') ?_
            refine AX.m 4 (by kernel_rfl) rfl rfl (ld_box rfl hb28 rfl) rfl ?_
            refine AX.o (by kernel_rfl) rfl ?_
            rintro v w13 ⟨⟨m2, rfl, hm2, hmo⟩, hx⟩
            replace H := H.ext hx; replace hb28 := hb28.ext hx; replace hE := hE.ext hx; replace hL2 := hL2.ext hx; replace hDr := hDr.ext hx
            refine AL.o 10 (by kernel_rfl) rfl ?_
            refine RL.buildSlice w0.heap.size H.size rfl rfl rfl rfl rfl ?_
            intro w14 i97 hi97 hx hb97
            replace H := H.ext hx; replace hb28 := hb28.ext hx; replace hE := hE.ext hx; replace hL2 := hL2.ext hx; replace hDr := hDr.ext hx; replace hmo := hmo.ext hx; clear hx
            refine RL.nil ?_
            refine AL.o 11 (by kernel_rfl) rfl ?_
            refine RL.appendS rfl hL2 H.size rfl (show Sl _ _ [m2] from Box.sl1 hb97) rfl rfl (by decide) rfl cell1 (by omega) (by simp only [maxLen]; omega) rfl ?_
            intro w15 a98 c98 hu hb98 hfr98
            replace hb28 := hb28.upd hu (fun h => hL2.box_apart hb28 (by decide) h)
            replace hE := hE.upd hu (fun j hj e => hE.apart hL2 (by decide) hj e)
            replace hDr := hDr.ow hL2 (by decide) hu
            replace hmo := hmo.upd hu (fun j hj e => hmo.apart hL2 (by decide) hj e)
            replace H := Ext.own H hL2 hu; clear hu
            refine RL.nil ?_
            refine AL.p 12 (by kernel_rfl) rfl (nilck rfl) rfl ?_
            refine AL.p 13 (by kernel_rfl) rfl (fa_box rfl) rfl ?_
            refine AL.o 14 (by kernel_rfl) rfl ?_
            have hb28_0 := hb28
            refine RL.store1 rfl hb28 rfl rfl rfl rfl ?_
            intro w16 hu hb28
            replace hE := hE.upd hu (fun j hj e => hE.box_apart hb28_0 (by decide) (e ▸ hj))
            replace hDr := hDr.bx hb28_0 (by decide) hu
            replace hmo := hmo.upd hu (fun j hj e => hmo.box_apart hb28_0 (by decide) (e ▸ hj))
            replace hb98 := hb98.upd hu (fun j hj e => hb98.box_apart hb28_0 (by decide) (e ▸ hj))
            replace H := H.box hu hb28.old
            refine RL.nil ?_
            refine AL.nil (by kernel_rfl) ?_
            refine WP.region ?_
            refine RL.r (mvI rfl) rfl ?_
            refine RL.r (add rfl rfl (by omega)) rfl ?_
            refine RL.r (asgI rfl) rfl ?_
            refine RL.nil ?_
            refine ⟨k1 - 1, by omega, j1 + 1, _, _, L2 ++ [m2], by omega, Head.intro (by repeat (first | with_reducible exact AgreeOff.mix _ _ _ | refine AgreeOff.look rfl ?_ | refine AgreeOff.mixs rfl ?_)) ⟨rfl, trivial⟩, H, hb28, hE, hb98, hDr.snoc (DR.of (hmo.mono hsC)), (by rw [List.map_append, hLm, List.take_succ_eq_append_getElem hj, List.map_append]; simp only [List.map_cons, List.map_nil, hm2]), fun i h hi => ?_⟩
            by_cases hij : i < j1
            · exact hok2 i h hij
            · obtain rfl : i = j1 := by omega
              exact hgood
      · refine WP.exit ?_
        refine WP.regionS ?_
        refine RL.r (mvP rfl) rfl ?_
        refine RL.r (asgP rfl) rfl ?_
        refine RL.r (asgI rfl) rfl ?_
        refine RL.nil ?_
        refine WP.ret ?_
        have hall : l.take j1 = l := List.take_of_length_le (by omega)
        have hokA : ∀ (i : Nat) (h : i < l.length), mkAt E0 l i h := fun i h => hok2 i h (by omega)
        have hE1 : ldE E0 l = 0 := ldE_0 (by omega) hnum hokA
        rw [hall] at hLm
        refine fin2_ret rfl rfl ⟨⟨_, tupP hE1.symm, fun _ => ⟨i28, _, rfl, a26, c26, b2, d2, L2, ⟨hb28, hE, hL2, hDr⟩, hLm.trans (ldE_mk hokA), rfl⟩, fun h => absurd hE1 h⟩, H⟩
end Go.Proofs.Ytbggmjnhfacjpaa
