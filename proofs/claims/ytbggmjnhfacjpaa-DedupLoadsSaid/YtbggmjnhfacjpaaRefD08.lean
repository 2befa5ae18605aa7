/-
  The document's table of producers: the walk of Done.
-/
import Derived.Test.YtbggmjnhfacjpaaRMk08
import Derived.Test.YtbggmjnhfacjpaaRefO08
set_option linter.unusedVariables false
namespace Go.Proofs.Ytbggmjnhfacjpaa
open Go Go.Eng Go.RowKit
/-! ### where a row is put -/
def dOut (L : List Maker) (m : Maker) (j : Nat) (put : Bool) : List Maker := if put = true then (L.take j).filter (fun x => decide (bfr x m)) ++ m :: (L.take j).filter (fun x => decide (bfr m x)) else (L.take j).filter (fun x => decide (bfr x m))
def dPut (L : List Maker) (m : Maker) (j : Nat) (put : Bool) : Prop := (put = true → ∃ (i : Nat) (h : i < L.length), i < j ∧ ¬ bfr L[i] m) ∧ (put = false → ∀ (i : Nat) (h : i < L.length), i < j → bfr L[i] m)
section
variable {L : List Maker} {m : Maker} {j : Nat} {put : Bool}
theorem dPut_0 : dPut L m 0 false := ⟨fun h => (by cases h), fun _ i h hi => by omega⟩
theorem dOut_le : (dOut L m j put).length ≤ j + 1 := by
  unfold dOut
  split
  · have h := ePut_le (L.take j) m
    unfold ePut at h
    rw [List.length_take] at h
    omega
  · refine Nat.le_trans (List.length_filter_le _ _) ?_
    rw [List.length_take]
    omega
theorem gt_nil (h : dPut L m j false) : (L.take j).filter (fun x => decide (bfr m x)) = [] := by
  rw [List.filter_eq_nil_iff]
  intro x hx hb
  obtain ⟨i, hi, rfl⟩ := List.getElem_of_mem hx
  rw [List.length_take] at hi
  rw [List.getElem_take] at hb
  exact bfr_asymm (h.2 rfl i (by omega) (by omega)) (of_decide_eq_true hb)
theorem dOut_now (h : dPut L m j false) : dOut L m j false ++ [m] = dOut L m j true := by
  unfold dOut
  rw [if_neg (by decide), if_pos rfl, gt_nil h]
theorem dPut_now (hj : j < L.length) (h : ¬ bfr L[j] m) : dPut L m (j + 1) true := ⟨fun _ => ⟨j, hj, by omega, h⟩, fun h => (by cases h)⟩
theorem dPut_keep (h : dPut L m j put) (hj : j < L.length) (hc : ¬ (¬ put = true ∧ ¬ bfr L[j] m)) : dPut L m (j + 1) put := by
  refine ⟨fun hp => ?_, fun hp i hi hij => ?_⟩
  · obtain ⟨i, hi, h1, h2⟩ := h.1 hp
    exact ⟨i, hi, by omega, h2⟩
  · by_cases h1 : i < j
    · exact h.2 hp i hi h1
    · obtain rfl : i = j := by omega
      exact Classical.byContradiction fun h2 => hc ⟨by rw [hp]; decide, h2⟩
theorem dPut_not (hs : L.Pairwise bfr) (hj : j < L.length) (h : dPut L m (j + 1) true) : ¬ bfr L[j] m := by
  obtain ⟨i, hi, h1, h2⟩ := h.1 rfl
  rcases Nat.lt_or_ge i j with h3 | h3
  · intro h4
    exact h2 (bfr_trans (List.pairwise_iff_getElem.1 hs i j hi hj h3) h4)
  · obtain rfl : i = j := by omega
    exact h2
theorem dOut_add (hs : L.Pairwise bfr) (hj : j < L.length) (h : dPut L m (j + 1) put) (hc : bfr L[j] m ∨ bfr m L[j]) : dOut L m (j + 1) put = dOut L m j put ++ [L[j]] := by
  unfold dOut
  rw [List.take_succ_eq_append_getElem hj, List.filter_append, List.filter_append]
  cases hp : put with
  | true =>
    subst hp
    have h1 := dPut_not hs hj h
    have h2 := hc.resolve_left h1
    rw [if_pos rfl, if_pos rfl]
    simp [h1, h2]
  | false =>
    subst hp
    have h1 := h.2 rfl j hj (by omega)
    rw [if_neg (by decide), if_neg (by decide)]
    simp [h1]
theorem dOut_skip (hj : j < L.length) (hc : ¬ (bfr L[j] m ∨ bfr m L[j])) : dOut L m (j + 1) put = dOut L m j put := by
  have h1 : ¬ bfr L[j] m := fun h => hc (.inl h)
  have h2 : ¬ bfr m L[j] := fun h => hc (.inr h)
  unfold dOut
  rw [List.take_succ_eq_append_getElem hj, List.filter_append, List.filter_append]
  simp [h1, h2]
theorem dOut_end (hj : L.length ≤ j) (hp : put = true) : dOut L m j put = ePut L m := by
  unfold dOut ePut
  rw [if_pos hp, List.take_of_length_le hj]
theorem dOut_last (hj : L.length ≤ j) (hp : ¬ put = true) (h : dPut L m j put) : dOut L m j put ++ [m] = ePut L m := by
  obtain rfl : put = false := by cases put <;> simp_all
  rw [dOut_now h]
  exact dOut_end hj rfl
end
theorem slcDl {P : Program} {e : Env} {x y : Operand} {t : TypeId} {α : Type} {a : Option Addr} {l : List α} {c n : Nat} {y0 : Int} {el : TypeId} {sz by_ : Nat} {zz : Value} [hu : Und P t (.slice el)] [hi : Inf P el sz by_ zz] (hx : ev e x = .slice a l.length c) (hy : ev e y = .int .i64 y0) (hn : y0 = (n : Int)) (h : n ≤ l.length) : Pure P e (.slice t x (some y) none none) (.slice (restA a c n sz) (l.drop n).length (c - n)) := by
  rw [List.length_drop]
  exact slcD hx hy hn h
theorem restA_blk {a : Option Addr} {c n sz k : Nat} (h : inBlock (restA a c n sz) k) : inBlock a k := by
  unfold restA at h
  split at h
  · exact h
  · obtain ⟨p, hp, hk⟩ := h
    cases a with
    | none => cases hp
    | some q =>
      simp only [Option.map_some, Option.some.injEq] at hp
      subst hp
      exact ⟨q, rfl, by rw [← hk]; unfold Addr.add; split <;> rfl⟩
theorem DR.suf {B c c' n : Nat} {w : World} {a : Option Addr} {id epoch : Int} {p : Part} {l : List Did} (h : Own B w 53 a c l) (hn : n ≤ l.length) : DR B w ⟨id, epoch, p, restA a c n 3, c', l.drop n⟩ := by
  have h1 := DR.of (x := ⟨id, epoch, p, a, c, l⟩) h
  exact ⟨h.sl.suf rfl hn (Own.len_le h) (by decide), fun k hk => h1.bk k (restA_blk hk)⟩
/-- topics whose lengths are numbers -/
def topT (D : Ds) : Prop := ∀ x ∈ D.S, x.part.topic.size ≤ 9223372036854775807
theorem topT0 : topT d0 := fun x hx => by cases hx
theorem topT_open {D : Ds} (h : topT D) (id : Int) : topT (openD D id) := by
  unfold openD
  split
  · exact h
  · split
    · exact h
    · split
      · exact h
      · split
        · exact h
        · exact fun x hx => h x (List.mem_filter.1 hx).1
theorem topT_done {D : Ds} (h : topT D) {p : Part} (hp : p.topic.size ≤ 9223372036854775807) (b : Bat) (off : Int) : topT (doneD D p b off) := by
  unfold doneD
  split
  · intro x hx
    rcases ePut_mem.1 hx with rfl | ⟨h1, _⟩
    · exact hp
    · exact h x h1
  · exact h
theorem rLessX (w0 : World) (a b : ByteArray) (ha : a.size ≤ 9223372036854775807) :
    Ct Try.prog 46 #[.string a, .string b] w0 fun v w' => v = .bool (decide (slt a b)) ∧ Ext w0 w' := by
  refine Ct.intro1 Try.func46 Try.ntmps46 rfl rfl (by decide) rfl ?_
  have H : Ext w0 w0 := Ext.refl w0
  refine WP.regionS ?_
  refine RL.r (asgB rfl) rfl ?_
  refine RL.nil ?_
  refine WP.seq ?_
  refine WP.regionS ?_
  refine RL.r (asgI rfl) rfl ?_
  refine RL.nil ?_
  refine WP.block ?_
  refine WP.loop (fun k e' w' => ∃ j : Nat,  j + k = a.size ∧ Head [4, 5, 6, 7, 8, 9, 10, 11, 12, 13, 14, 15, 16, 17, 18, 19, 20, 21, 22, 23, 24, 25, 26, 27, 28, 29, 30, 31] _ [(5, .int .i64 (j : Int))] e' ∧ Ext w0 w' ∧ ∀ i, i < j → i < a.size ∧ i < b.size ∧ a.toList[i]? = b.toList[i]?) (a.size)
    ⟨0, by omega, Head.intro (AgreeOff.refl _ _) ⟨rfl, trivial⟩, H, by omega⟩ ?_
  clear H
  rintro k e w1 ⟨j, hjk, ⟨jk, rfl⟩, H, heq⟩
  refine WP.seq ?_
  refine WP.seq (WP.quiet ?_)
  refine QL.r (mvI rfl) rfl ?_
  refine QL.r (mvS rfl) rfl ?_
  refine QL.r (len_str rfl) rfl ?_
  refine QL.r (lss rfl rfl) rfl ?_
  refine QL.r (mvB rfl) rfl ?_
  refine QL.gg (gwT rfl rfl) (fun hg => (mvI rfl).does _) rfl ?_
  refine QL.gg (gwT rfl rfl) (fun hg => (mvS rfl).does _) rfl ?_
  refine QL.gg (gwT rfl rfl) (fun hg => (len_str (gs hg rfl)).does _) rfl ?_
  refine QL.gg (gwT rfl rfl) (fun hg => (lss (gs hg rfl) (gs hg rfl)).does _) rfl ?_
  refine QL.r (pickAnd rfl (fun hn => gs hn rfl)) rfl ?_
  refine QL.nil ?_; intro w2 hx; replace H := H.ext hx
  refine WP.cond rfl (fun hc => ?_) (fun hc => ?_)
  · refine WP.skip ?_
    refine WP.seq ?_
    refine WP.block ?_
    refine WP.seq ?_
    refine WP.draw (by kernel_rfl) ?_
    refine QL.r (mvS rfl) rfl ?_
    refine QL.r (mvI rfl) rfl ?_
    refine QL.r (ix_str rfl rfl rfl (by omega)) rfl ?_
    refine QL.r (mvS rfl) rfl ?_
    refine QL.r (mvI rfl) rfl ?_
    refine QL.r (ix_str rfl rfl rfl (by omega)) rfl ?_
    refine QL.r (neq rfl rfl) rfl ?_
    refine QL.nil ?_; intro w3 hx; replace H := H.ext hx
    refine WP.cond rfl (fun hc => ?_) (fun hc => ?_)
    · refine WP.seq ?_
      refine WP.draw (by kernel_rfl) ?_
      refine QL.r (mvS rfl) rfl ?_
      refine QL.r (mvI rfl) rfl ?_
      refine QL.r (ix_str rfl rfl rfl (by omega)) rfl ?_
      refine QL.r (mvS rfl) rfl ?_
      refine QL.r (mvI rfl) rfl ?_
      refine QL.r (ix_str rfl rfl rfl (by omega)) rfl ?_
      refine QL.r (lss rfl rfl) rfl ?_
      refine QL.r (asgB rfl) rfl ?_
      refine QL.nil ?_; intro w4 hx; replace H := H.ext hx
      refine WP.ret ?_
      refine fin1_ret rfl ⟨congrArg Value.bool (bD ?_), H⟩
      rw [slt_differ a b j (fun i hi => (heq i hi).2.2) (by omega) (by omega) (by intro h; rw [h] at hc; exact hc rfl), UInt8.lt_iff_toNat_lt]
      omega
    · refine WP.skip ?_
      refine WP.region ?_
      refine RL.r (mvI rfl) rfl ?_
      refine RL.r (add rfl rfl (by omega)) rfl ?_
      refine RL.r (asgI rfl) rfl ?_
      refine RL.nil ?_
      refine ⟨k - 1, by omega, j + 1, by omega, Head.intro (by repeat (first | with_reducible exact AgreeOff.mix _ _ _ | refine AgreeOff.look rfl ?_ | refine AgreeOff.mixs rfl ?_)) ⟨rfl, trivial⟩, H, fun i hi => ?_⟩
      by_cases h : i < j
      · exact heq i h
      · obtain rfl : i = j := by omega
        refine ⟨by omega, by omega, ?_⟩
        rw [toList_get a i (by omega), toList_get b i (by omega)]
        congr 1
        apply UInt8.toNat_inj.1
        omega
  · refine WP.exit ?_
    refine WP.regionS ?_
    refine RL.r (mvS rfl) rfl ?_
    refine RL.r (len_str rfl) rfl ?_
    refine RL.r (mvS rfl) rfl ?_
    refine RL.r (len_str rfl) rfl ?_
    refine RL.r (lss rfl rfl) rfl ?_
    refine RL.r (asgB rfl) rfl ?_
    refine RL.nil ?_
    refine WP.ret ?_
    refine fin1_ret rfl ⟨congrArg Value.bool (bD ?_), H⟩
    rw [slt_prefix a b (fun i h1 h2 => (heq i (by omega)).2.2)]
    omega
theorem rBfr (w0 : World) (a b : Maker) (h2 : a.part.topic.size ≤ 9223372036854775807) :
    Ct Try.prog 22 #[.agg (Lies.enc a).toArray, .agg (Lies.enc b).toArray] w0 fun v w' => v = .bool (decide (bfr a b)) ∧ Ext w0 w' := by
  refine Ct.intro1 Try.func22 Try.ntmps22 rfl rfl (by decide) rfl ?_
  have H : Ext w0 w0 := Ext.refl w0
  refine WP.regionS ?_
  refine RL.boxS w0.heap.size H.size rfl rfl ?_
  intro w1 i2 hi2 hx hb2
  replace H := H.ext hx; clear hx
  refine RL.boxS w0.heap.size H.size rfl rfl ?_
  intro w2 i3 hi3 hx hb3
  have ne2_3 := hb2.ne hi3
  replace H := H.ext hx; replace hb2 := hb2.ext hx; clear hx
  refine RL.r (asgB rfl) rfl ?_
  refine RL.nil ?_
  refine WP.seq ?_
  refine WP.regionS ?_
  refine RL.r (fa_box rfl) rfl ?_
  refine RL.m (ld_box rfl hb2 rfl) rfl ?_
  refine RL.r (fa_box rfl) rfl ?_
  refine RL.m (ld_box rfl hb3 rfl) rfl ?_
  refine RL.r (neq rfl rfl) rfl ?_
  refine RL.nil ?_
  refine WP.cond rfl (fun hc => ?_) (fun hc => ?_)
  · refine WP.regionS ?_
    refine RL.r (fa_box rfl) rfl ?_
    refine RL.m (ld_box rfl hb2 rfl) rfl ?_
    refine RL.r (fa_box rfl) rfl ?_
    refine RL.m (ld_box rfl hb3 rfl) rfl ?_
    refine RL.r (lss rfl rfl) rfl ?_
    refine RL.r (asgB rfl) rfl ?_
    refine RL.nil ?_
    refine WP.ret ?_
    refine fin1_ret rfl ⟨congrArg Value.bool (bD (by show _ ↔ ltK _ _; unfold ltK; simp only [key, Keyed.key]; omega)), H⟩
  · refine WP.skip ?_
    refine WP.seq ?_
    refine WP.regionS ?_
    refine RL.r (fa_box rfl) rfl ?_
    refine RL.r (fa_box rfl) rfl ?_
    refine RL.m (ld_box rfl hb2 rfl) rfl ?_
    refine RL.r (fa_box rfl) rfl ?_
    refine RL.r (fa_box rfl) rfl ?_
    refine RL.m (ld_box rfl hb3 rfl) rfl ?_
    refine RL.r (sneq rfl rfl) rfl ?_
    refine RL.nil ?_
    refine WP.cond rfl (fun hc => ?_) (fun hc => ?_)
    · refine WP.regionS ?_
      refine RL.r (fa_box rfl) rfl ?_
      refine RL.r (fa_box rfl) rfl ?_
      refine RL.m (ld_box rfl hb2 rfl) rfl ?_
      refine RL.r (fa_box rfl) rfl ?_
      refine RL.r (fa_box rfl) rfl ?_
      refine RL.m (ld_box rfl hb3 rfl) rfl ?_
      -- call stagecoach/stagecoachref04.Less (tmp 24) (tmp 27)
      refine RL.call (rLessX _ _ _ h2) rfl rfl ?_
      rintro _ w3 ⟨rfl, hx⟩
      replace H := H.ext hx; replace hb2 := hb2.ext hx; replace hb3 := hb3.ext hx
      refine RL.r (asgB rfl) rfl ?_
      refine RL.nil ?_
      refine WP.ret ?_
      refine fin1_ret rfl ⟨congrArg Value.bool (bD (by have e := Classical.not_not.1 ‹¬ a.id ≠ b.id›; show _ ↔ ltK _ _; unfold ltK; simp only [key, Keyed.key]; simp [e, hc])), H⟩
    · refine WP.skip ?_
      refine WP.regionS ?_
      refine RL.r (fa_box rfl) rfl ?_
      refine RL.r (fa_box rfl) rfl ?_
      refine RL.m (ld_box rfl hb2 rfl) rfl ?_
      refine RL.r (fa_box rfl) rfl ?_
      refine RL.r (fa_box rfl) rfl ?_
      refine RL.m (ld_box rfl hb3 rfl) rfl ?_
      refine RL.r (lss rfl rfl) rfl ?_
      refine RL.r (asgB rfl) rfl ?_
      refine RL.nil ?_
      refine WP.ret ?_
      refine fin1_ret rfl ⟨congrArg Value.bool (bD (by have e := Classical.not_not.1 ‹¬ a.id ≠ b.id›; have e2 := Classical.not_not.1 ‹¬ a.part.topic ≠ b.part.topic›; show _ ↔ ltK _ _; unfold ltK; simp only [key, Keyed.key]; simp [e, e2, slt_irrefl])), H⟩
set_option maxRecDepth 20000 in
set_option maxHeartbeats 3200000 in
theorem rDone (w0 : World) (B i : Nat) (Y : Nat → Prop) (D : Ds) (hR : Tr B w0 i Y D) (K : Int) (M : Nat) (hok : okD K M D) (hK : 0 ≤ K ∧ K ≤ 4611686018427387904) (hM : M ≤ 100000) (htop : topT D) (p : Part) (hp : p.topic.size ≤ 9223372036854775807) (b : Bat) (off : Int) (hrl : b.recs.length ≤ 100000) :
    Ct Try.prog 14 #[.pointer (some ⟨i, 0, none⟩), .agg (Lies.enc p).toArray, .agg (Lies.enc b).toArray, .int .i64 off] w0 fun v w' => (v = .int .i64 (doneE D p b off) ∧ ∃ Y', Tr B w' i Y' (doneD D p b off) ∧ Grew Y Y' w0.heap.size) ∧ Upd Y w0 w' := by
  refine Ct.intro1 Try.func14 Try.ntmps14 rfl rfl (by decide) rfl ?_
  have H : Upd (Y) w0 w0 := Upd.refl _ w0
  obtain ⟨a, c, b2, d, L, hQ, hLm, hY⟩ := hR.at_
  have hbt := hQ.box
  have hE := hQ.eps
  have hO := hQ.row
  have hDr : DRs B w0 L := hQ.dr
  have hlen : L.length = D.S.length := by have h9 := congrArg List.length hLm; simpa using h9
  have hcnt := hok.cnt
  have hOlt : ∀ k, inBlock b2 k → k < w0.heap.size := fun k hk => (hO.blk hk).2
  have hDlt : ∀ x ∈ L, ∀ k, inBlock x.la k → k < w0.heap.size := fun x hx k hk => ((hDr x hx).lt hk).2
  have hBs : B ≤ w0.heap.size := by have := hbt.old; have := hbt.lt; omega
  have hls : L.Pairwise bfr := by
    have h9 := hok.srt
    rw [← mk_pl hLm] at h9
    exact (srt_map (fun v => key_pl v) L).1 h9
  have hLt : ∀ (n : Nat) (h : n < L.length), L[n].part.topic.size ≤ 9223372036854775807 := by
    intro n h
    obtain ⟨h2, e⟩ := mk_at hLm n h
    rw [show L[n].part = D.S[n].part from congrArg Mk.part e]
    exact htop _ (List.getElem_mem h2)
  have hl5 := lastD_len hok ⟨b.prod, p⟩
  refine WP.regionS ?_
  refine RL.boxS w0.heap.size H.size rfl rfl ?_
  intro w1 i5 hi5 hx hb5
  have net_5 := hbt.ne hi5
  replace H := H.ext hx; replace hbt := hbt.ext hx; replace hR := hR.ext hx; replace hE := hE.ext hx; replace hO := hO.ext hx; replace hDr := hDr.ext hx; clear hx
  refine RL.boxS w0.heap.size H.size rfl rfl ?_
  intro w2 i6 hi6 hx hb6
  have net_6 := hbt.ne hi6
  have ne5_6 := hb5.ne hi6
  replace H := H.ext hx; replace hbt := hbt.ext hx; replace hb5 := hb5.ext hx; replace hR := hR.ext hx; replace hE := hE.ext hx; replace hO := hO.ext hx; replace hDr := hDr.ext hx; clear hx
  refine RL.r (asgI rfl) rfl ?_
  refine RL.nil ?_
  refine WP.regionS ?_
  refine RL.r (mvP rfl) rfl ?_
  refine RL.m (ldS_box rfl hb5 (Nat.le_of_ble_eq_true rfl) rfl) rfl ?_
  refine RL.m (ldS_box rfl hb6 (Nat.le_of_ble_eq_true rfl) rfl) rfl ?_
  -- call (*stagecoach/stagecoachref08.Table).Ask (tmp 18) (tmp 19) (tmp 20)
  refine RL.call (rAsk _ B i Y D hR K M hok hK hM p b) rfl rfl ?_
  rintro _ w3 ⟨rfl, hx⟩
  replace H := H.ext hx; replace hbt := hbt.ext hx; replace hb5 := hb5.ext hx; replace hb6 := hb6.ext hx; replace hR := hR.ext hx; replace hE := hE.ext hx; replace hO := hO.ext hx; replace hDr := hDr.ext hx
  refine RL.r (mvU rfl) rfl ?_
  refine RL.r (ex0 rfl) rfl ?_
  refine RL.r (ex1 rfl) rfl ?_
  refine RL.r (ex2 rfl) rfl ?_
  refine RL.r (asgI rfl) rfl ?_
  refine RL.r (asgB rfl) rfl ?_
  refine RL.r (asgI rfl) rfl ?_
  refine RL.nil ?_
  refine WP.seq ?_
  refine WP.regionS ?_
  refine RL.r (mvI rfl) rfl ?_
  refine RL.r (neq rfl rfl) rfl ?_
  refine RL.nil ?_
  refine WP.cond rfl (fun hc => ?_) (fun hc => ?_)
  · refine WP.regionS ?_
    refine RL.r (mvI rfl) rfl ?_
    refine RL.r (asgI rfl) rfl ?_
    refine RL.nil ?_
    refine WP.ret ?_
    have hE1 : doneE D p b off = (askA D p b).2.2 := by unfold doneE; rw [if_pos hc]
    refine fin1_ret rfl ⟨⟨intE hE1.symm, Y, by unfold doneD; rw [if_neg (by rw [hE1]; intro h9; have := h9.1; first | contradiction | omega)]; exact hR, Grew.refl _ _⟩, H⟩
  · refine WP.skip ?_
    refine WP.seq ?_
    refine WP.regionS ?_
    refine RL.r (mvB rfl) rfl ?_
    refine RL.nil ?_
    refine WP.cond rfl (fun hc => ?_) (fun hc => ?_)
    · refine WP.regionS ?_
      refine RL.r (asgI rfl) rfl ?_
      refine RL.nil ?_
      refine WP.ret ?_
      have hE1 : doneE D p b off = 82 := by unfold doneE; rw [if_neg (by assumption), if_pos hc]
      refine fin1_ret rfl ⟨⟨intE hE1.symm, Y, by unfold doneD; rw [if_neg (by rw [hE1]; intro h9; have := h9.1; first | contradiction | omega)]; exact hR, Grew.refl _ _⟩, H⟩
    · refine WP.skip ?_
      refine WP.seq ?_
      refine WP.seq (WP.quiet ?_)
      refine QL.r (fa_box rfl) rfl ?_
      refine QL.m (ld_box rfl hb6 rfl) rfl ?_
      refine QL.r (len_sl rfl) rfl ?_
      refine QL.r (eql rfl rfl) rfl ?_
      refine QL.r (mvB rfl) rfl ?_
      refine QL.gg (gwF rfl rfl) (fun hg => (mvI rfl).does _) rfl ?_
      -- call stagecoach/stagecoachref03.Num (tmp 34)
      refine QL.gcall (gwF rfl rfl) (fun hg w' hw' => rNum w' off) (fun hg => EvL.cons (gs hg rfl) EvL.nil) rfl ?_
      first | refine QL.gg (gwF rfl rfl) (fun hg => (notD (gs hg rfl)).does _) rfl ?_ | refine QL.gg (gwF rfl rfl) (fun hg => (not_ (gs hg rfl)).does _) rfl ?_
      refine QL.r (pickOr rfl (fun hn => gs hn rfl)) rfl ?_
      refine QL.nil ?_; intro w5 hx; replace H := H.ext hx; replace hbt := hbt.ext hx; replace hb5 := hb5.ext hx; replace hb6 := hb6.ext hx; replace hR := hR.ext hx; replace hE := hE.ext hx; replace hO := hO.ext hx; replace hDr := hDr.ext hx
      refine WP.cond rfl (fun hc => ?_) (fun hc => ?_)
      · refine WP.regionS ?_
        refine RL.r (asgI rfl) rfl ?_
        refine RL.nil ?_
        refine WP.ret ?_
        have hE1 : doneE D p b off = 1 := by unfold doneE; rw [if_neg (by assumption), if_neg (by assumption), if_pos hc]
        refine fin1_ret rfl ⟨⟨intE hE1.symm, Y, by unfold doneD; rw [if_neg (by rw [hE1]; intro h9; have := h9.1; first | contradiction | omega)]; exact hR, Grew.refl _ _⟩, H⟩
      · refine WP.skip ?_
        refine WP.seq ?_
        refine WP.regionS ?_
        refine RL.r (fa_box rfl) rfl ?_
        refine RL.m (ld_box rfl hb6 rfl) rfl ?_
        refine RL.r (eql rfl rfl) rfl ?_
        refine RL.nil ?_
        refine WP.cond rfl (fun hc => ?_) (fun hc => ?_)
        · refine WP.regionS ?_
          refine RL.r (asgI rfl) rfl ?_
          refine RL.nil ?_
          refine WP.ret ?_
          have hE1 : doneE D p b off = 0 := by unfold doneE; rw [if_neg (by assumption), if_neg (by assumption), if_neg (by assumption)]
          refine fin1_ret rfl ⟨⟨intE hE1.symm, Y, by unfold doneD; rw [if_neg (fun h => h.2 hc)]; exact hR, Grew.refl _ _⟩, H⟩
        · refine WP.skip ?_
          refine WP.regionS ?_
          refine RL.build0 (α := Did) w0.heap.size (Upd.size H) rfl ?_
          intro w6 i41 hi41 hx hb41
          replace H := H.ext hx; replace hbt := hbt.ext hx; replace hb5 := hb5.ext hx; replace hb6 := hb6.ext hx; replace hR := hR.ext hx; replace hE := hE.ext hx; replace hO := hO.ext hx; replace hDr := hDr.ext hx; clear hx
          refine RL.r (mvP rfl) rfl ?_
          refine RL.r (fa_box rfl) rfl ?_
          refine RL.m (ld_box rfl hb6 rfl) rfl ?_
          refine RL.m (ldS_box rfl hb5 (Nat.le_of_ble_eq_true rfl) rfl) rfl ?_
          -- call (*stagecoach/stagecoachref08.Table).last (tmp 42) (tmp 44) (tmp 45)
          have hp0 : b.prod ≠ 0 := hc
          have hE1 : doneE D p b off = 0 := by unfold doneE; rw [if_neg (by assumption), if_neg (by assumption), if_neg (by assumption)]
          have hepo := (done_ok (n := b.recs.length) hE1 hp0).2.1
          refine RL.call (rLast _ B i Y D hR K M hok hM b.prod p) rfl rfl ?_
          rintro v w7 ⟨⟨la, lc, rfl, hl⟩, hx⟩
          replace H := H.ext hx; replace hbt := hbt.ext hx; replace hb5 := hb5.ext hx; replace hb6 := hb6.ext hx; replace hR := hR.ext hx; replace hE := hE.ext hx; replace hO := hO.ext hx; replace hDr := hDr.ext hx; replace hb41 := hb41.ext hx
          refine RL.appendS rfl hb41 (Upd.size H) rfl hl rfl rfl (by decide) rfl cell1 (by simp only [List.length_nil]; omega) (by simp only [List.length_nil, maxLen]; omega) rfl ?_
          intro w8 a47 c47 hu hb47 hfr47
          replace hbt := hbt.upd hu (fun h => hb41.box_apart hbt (by decide) h)
          replace hb5 := hb5.upd hu (fun h => hb41.box_apart hb5 (by decide) h)
          replace hb6 := hb6.upd hu (fun h => hb41.box_apart hb6 (by decide) h)
          replace hE := hE.upd hu (fun j hj e => hE.apart hb41 (by decide) hj e)
          replace hO := hO.upd hu (fun j hj e => by have h1 := hOlt j hj; have h2 := (hb41.blk e).1; omega)
          replace hDr := hDr.upd hu (fun x hx j hj e => by have h1 := hDlt x hx j hj; have h2 := (hb41.blk e).1; omega)
          replace H := Upd.own H hb41 hu
          rw [List.nil_append] at hb47 ⊢
          refine RL.r (asgL rfl) rfl ?_
          refine RL.nil ?_
          refine WP.regionS ?_
          refine RL.r (mvL rfl) rfl ?_
          refine RL.r (fa_box rfl) rfl ?_
          refine RL.m (ld_box rfl hb6 rfl) rfl ?_
          refine RL.r (fa_box rfl) rfl ?_
          refine RL.m (ld_box rfl hb6 rfl) rfl ?_
          refine RL.r (len_sl rfl) rfl ?_
          refine RL.r (mvI rfl) rfl ?_
          refine RL.r (bld rfl rfl) rfl ?_
          refine RL.buildSlice w0.heap.size H.size rfl rfl rfl rfl rfl ?_
          intro w9 i56 hi56 hx hb56
          replace H := H.ext hx; replace hbt := hbt.ext hx; replace hb5 := hb5.ext hx; replace hb6 := hb6.ext hx; replace hE := hE.ext hx; replace hO := hO.ext hx; replace hDr := hDr.ext hx; replace hb47 := hb47.ext hx; clear hx
          refine RL.appendS rfl hb47 (Upd.size H) rfl (show Sl _ _ [(⟨b.seq, (b.recs.length : Int), off⟩ : Did)] from Box.sl1 hb56) rfl rfl (by decide) rfl cell1 (by omega) (by simp only [maxLen]; omega) rfl ?_
          intro w10 a57 c57 hu hb57 hfr57
          replace hbt := hbt.upd hu (fun h => hb47.box_apart hbt (by decide) h)
          replace hb5 := hb5.upd hu (fun h => hb47.box_apart hb5 (by decide) h)
          replace hb6 := hb6.upd hu (fun h => hb47.box_apart hb6 (by decide) h)
          replace hE := hE.upd hu (fun j hj e => hE.apart hb47 (by decide) hj e)
          replace hO := hO.upd hu (fun j hj e => by have h1 := hOlt j hj; have h2 := (hb47.blk e).1; omega)
          replace hDr := hDr.upd hu (fun x hx j hj e => by have h1 := hDlt x hx j hj; have h2 := (hb47.blk e).1; omega)
          replace H := Upd.own H hb47 hu
          have hL6 : ((lastD D.S ⟨b.prod, p⟩) ++ [(⟨b.seq, (b.recs.length : Int), off⟩ : Did)] : List Did).length = (lastD D.S ⟨b.prod, p⟩).length + 1 := by simp
          refine RL.r (asgL rfl) rfl ?_
          refine RL.nil ?_
          refine WP.seq ?_
          refine WP.regionS ?_
          refine RL.r (mvL rfl) rfl ?_
          refine RL.r (len_sl rfl) rfl ?_
          refine RL.r (gtr rfl rfl) rfl ?_
          refine RL.nil ?_
          refine WP.cut (α := Option Addr × Nat × List Did) [12, 61, 62] (fun x => [(12, .slice x.1 x.2.2.length x.2.1)]) (fun x w' => Upd (Y) w0 w' ∧ Box B w' i 65 [.slice a D.E.length c, .slice b2 L.length d] ∧ Box w0.heap.size w' i5 25 (Lies.enc p) ∧ Box w0.heap.size w' i6 28 (Lies.enc b) ∧ Own B w' 3 a c D.E ∧ Own B w' 33 b2 d L ∧ DRs B w' L ∧ DR w0.heap.size w' (⟨b.prod, b.epoch, p, x.1, x.2.1, x.2.2⟩ : Maker) ∧ x.2.2 = pushL (lastD D.S ⟨b.prod, p⟩) (⟨b.seq, (b.recs.length : Int), off⟩ : Did)) ?_ ?_
          · refine WP.cond rfl (fun hc => ?_) (fun hc => ?_)
            · refine WP.region ?_
              refine RL.r (mvL rfl) rfl ?_
              refine RL.r (slcDl (l := (lastD D.S ⟨b.prod, p⟩) ++ [(⟨b.seq, (b.recs.length : Int), off⟩ : Did)]) (n := 1) rfl rfl rfl (by omega)) rfl ?_
              refine RL.r (asgL rfl) rfl ?_
              refine RL.nil ?_
              refine ⟨(restA a57 c57 1 3, c57 - 1, ((lastD D.S ⟨b.prod, p⟩) ++ [(⟨b.seq, (b.recs.length : Int), off⟩ : Did)]).drop 1), Head.intro (by repeat (first | with_reducible exact AgreeOff.refl _ _ | with_reducible exact AgreeOff.mix _ _ _ | refine AgreeOff.look rfl ?_ | refine AgreeOff.mixs rfl ?_)) ⟨rfl, trivial⟩, H, hbt, hb5, hb6, hE, hO, hDr, DR.suf hb57 (by omega), by unfold pushL; rw [show ((lastD D.S ⟨b.prod, p⟩) ++ [(⟨b.seq, (b.recs.length : Int), off⟩ : Did)] : List Did).length - 5 = 1 by omega]⟩
            · refine WP.skip ?_
              refine ⟨(a57, c57, (lastD D.S ⟨b.prod, p⟩) ++ [(⟨b.seq, (b.recs.length : Int), off⟩ : Did)]), Head.intro (by repeat (first | with_reducible exact AgreeOff.refl _ _ | with_reducible exact AgreeOff.mix _ _ _ | refine AgreeOff.look rfl ?_ | refine AgreeOff.mixs rfl ?_)) ⟨rfl, trivial⟩, H, hbt, hb5, hb6, hE, hO, hDr, DR.of hb57, by unfold pushL; rw [show ((lastD D.S ⟨b.prod, p⟩) ++ [(⟨b.seq, (b.recs.length : Int), off⟩ : Did)] : List Did).length - 5 = 0 by omega, List.drop_zero]⟩
          rintro ⟨l3, c3, L3⟩ jc w11 ⟨H, hbt, hb5, hb6, hE, hO, hDr, hmm, hL3⟩
          try dsimp only at hmm
          try dsimp only at hL3
          refine WP.regionS ?_
          refine RL.r (fa_box rfl) rfl ?_
          refine RL.m (ld_box rfl hb6 rfl) rfl ?_
          refine RL.r (fa_box rfl) rfl ?_
          refine RL.m (ld_box rfl hb6 rfl) rfl ?_
          refine RL.m (ldS_box rfl hb5 (Nat.le_of_ble_eq_true rfl) rfl) rfl ?_
          refine RL.r (mvL rfl) rfl ?_
          refine RL.r (bld rfl rfl) rfl ?_
          refine RL.alloc w0.heap.size H.size rfl rfl ?_
          intro w12 i13 hi13 hx hb13
          have net_13 := hbt.ne hi13
          have ne5_13 := hb5.ne hi13
          have ne6_13 := hb6.ne hi13
          refine RL.storeS rfl hb13 rfl rfl rfl rfl ?_
          intro w13 hu hb13
          replace hx := hx.box hu (Nat.le_of_eq hi13.symm)
          replace H := H.ext hx; replace hbt := hbt.ext hx; replace hb5 := hb5.ext hx; replace hb6 := hb6.ext hx; replace hE := hE.ext hx; replace hO := hO.ext hx; replace hDr := hDr.ext hx; replace hmm := hmm.ext hx; clear hx hu
          refine RL.nil ?_
          refine WP.regionS ?_
          have h13 := hb13.lt
          refine RL.build0 (α := Maker) w0.heap.size (Upd.size H) rfl ?_
          intro w14 i70 hi70 hx hb70
          replace H := H.ext hx; replace hbt := hbt.ext hx; replace hb5 := hb5.ext hx; replace hb6 := hb6.ext hx; replace hb13 := hb13.ext hx; replace hE := hE.ext hx; replace hO := hO.ext hx; replace hDr := hDr.ext hx; replace hmm := hmm.ext hx; clear hx
          refine RL.r (asgL rfl) rfl ?_
          refine RL.r (asgB rfl) rfl ?_
          refine RL.nil ?_
          refine WP.seq ?_
          refine WP.regionS ?_
          refine RL.r (asgI rfl) rfl ?_
          refine RL.nil ?_
          refine WP.block ?_
          refine WP.loop (fun k e' w' => ∃ j : Nat, ∃ (a14 : Option Addr) (c14 : Nat) (put : Bool),  j + k = L.length ∧ Head [14, 15, 16, 71, 72, 73, 74, 75, 76, 77, 78, 79, 80, 81, 82, 83, 84, 85, 86, 87, 88, 89, 90, 91, 92, 93, 94, 95, 96, 97, 98, 99, 100, 101, 102, 103, 104, 105, 106, 107, 108, 109, 110, 111, 112, 113, 114, 115, 116, 117, 118, 119, 120, 121, 122, 123, 124, 125, 126, 127] _ [(14, .slice a14 (dOut L (⟨b.prod, b.epoch, p, l3, c3, L3⟩ : Maker) j put).length c14), (15, .bool (decide (put = true))), (16, .int .i64 (j : Int))] e' ∧ Upd (Y) w0 w' ∧ Box B w' i 65 [.slice a D.E.length c, .slice b2 L.length d] ∧ Box w0.heap.size w' i5 25 (Lies.enc p) ∧ Box w0.heap.size w' i6 28 (Lies.enc b) ∧ Box w0.heap.size w' i13 33 (Lies.enc (⟨b.prod, b.epoch, p, l3, c3, L3⟩ : Maker)) ∧ Own B w' 3 a c D.E ∧ Own B w' 33 b2 d L ∧ DRs B w' L ∧ DR w0.heap.size w' (⟨b.prod, b.epoch, p, l3, c3, L3⟩ : Maker) ∧ Own w0.heap.size w' 33 a14 c14 (dOut L (⟨b.prod, b.epoch, p, l3, c3, L3⟩ : Maker) j put) ∧ dPut L (⟨b.prod, b.epoch, p, l3, c3, L3⟩ : Maker) j put ∧ (∀ k, inBlock a14 k → k ≠ i13)) (L.length)
            ⟨0, _, _, false, by omega, Head.intro (AgreeOff.refl _ _) ⟨rfl, rfl, rfl, trivial⟩, H, hbt, hb5, hb6, hb13, hE, hO, hDr, hmm, hb70, dPut_0, (by rintro k ⟨p9, hp9, rfl⟩; cases hp9; show i70 ≠ i13; omega)⟩ ?_
          clear H hbt hb5 hb6 hb13 hE hO hDr hmm hb70
          rintro k e w15 ⟨j, a14, c14, put, hjk, ⟨jk, rfl⟩, H, hbt, hb5, hb6, hb13, hE, hO, hDr, hmm, hRs, hpt, hne⟩
          have hdl := dOut_le (L := L) (m := (⟨b.prod, b.epoch, p, l3, c3, L3⟩ : Maker)) (j := j) (put := put)
          refine WP.seq ?_
          refine WP.regionS ?_
          refine RL.r (mvI rfl) rfl ?_
          refine RL.r (mvP rfl) rfl ?_
          refine RL.r (nilck rfl) rfl ?_
          refine RL.r (fa_box rfl) rfl ?_
          refine RL.m (ld_box rfl hbt rfl) rfl ?_
          refine RL.r (len_sl rfl) rfl ?_
          refine RL.r (lss rfl rfl) rfl ?_
          refine RL.nil ?_
          refine WP.cond rfl (fun hc => ?_) (fun hc => ?_)
          · refine WP.skip ?_
            refine WP.seq ?_
            refine WP.block ?_
            refine WP.seq ?_
            refine WP.seq ?_
            refine WP.draw (by kernel_rfl) ?_
            refine QL.r (mvB rfl) rfl ?_
            first | refine QL.r (notD rfl) rfl ?_ | refine QL.r (not_ rfl) rfl ?_
            refine QL.r (mvB rfl) rfl ?_
            refine QL.gg (gwT rfl rfl) (fun hg => (mvP rfl).does _) rfl ?_
            refine QL.gg (gwT rfl rfl) (fun hg => (nilck (gs hg rfl)).does _) rfl ?_
            refine QL.gg (gwT rfl rfl) (fun hg => (fa_box (gs hg rfl)).does _) rfl ?_
            refine QL.gg (gwT rfl rfl) (fun hg => ld_box (gs hg rfl) hbt rfl) rfl ?_
            refine QL.gg (gwT rfl rfl) (fun hg => (mvI rfl).does _) rfl ?_
            have hj : j < L.length := by omega
            refine QL.gg (gwT rfl rfl) (fun hg => (ix_o (gs hg rfl) (gs hg rfl) rfl hj (hO.sl.someA (by decide) hj)).does _) rfl ?_
            refine QL.gg (gwT rfl rfl) (fun hg => ldS_o0 (gs hg rfl) hO.sl (Ext.refl _) rfl rfl hj (by decide)) rfl ?_
            refine QL.gg (gwT rfl rfl) (fun hg => ldS_box rfl hb13 (Nat.le_of_ble_eq_true rfl) rfl) rfl ?_
            -- call stagecoach/stagecoachref08.Before (tmp 89) (tmp 90)
            have hB1 : ∀ w', Ext w15 w' → Ct Try.prog 22 #[.agg (Lies.enc L[j]).toArray, .agg (Lies.enc (⟨b.prod, b.epoch, p, l3, c3, L3⟩ : Maker)).toArray] w' fun v w'' => v = .bool (decide (bfr L[j] (⟨b.prod, b.epoch, p, l3, c3, L3⟩ : Maker))) ∧ Ext w' w'' := fun w' _ => rBfr w' _ _ (hLt j hj)
            refine QL.gcall (gwT rfl rfl) (fun hg w' hw' => hB1 w' hw') (fun hg => EvL.cons (gs hg rfl) (EvL.cons (gs hg rfl) EvL.nil)) rfl ?_
            first | refine QL.gg (gwT rfl rfl) (fun hg => (notD (gs hg rfl)).does _) rfl ?_ | refine QL.gg (gwT rfl rfl) (fun hg => (not_ (gs hg rfl)).does _) rfl ?_
            refine QL.r (pickAnd rfl (fun hn => gs hn rfl)) rfl ?_
            refine QL.nil ?_; intro w17 hx; replace H := H.ext hx; replace hbt := hbt.ext hx; replace hb5 := hb5.ext hx; replace hb6 := hb6.ext hx; replace hb13 := hb13.ext hx; replace hE := hE.ext hx; replace hO := hO.ext hx; replace hDr := hDr.ext hx; replace hmm := hmm.ext hx; replace hRs := hRs.ext hx
            refine WP.cut (α := Bool × Option Addr × Nat) [14, 15, 94, 95, 96, 97] (fun x => [(14, .slice x.2.1 (dOut L (⟨b.prod, b.epoch, p, l3, c3, L3⟩ : Maker) j x.1).length x.2.2), (15, .bool (decide (x.1 = true)))]) (fun x w' => Upd (Y) w0 w' ∧ Box B w' i 65 [.slice a D.E.length c, .slice b2 L.length d] ∧ Box w0.heap.size w' i5 25 (Lies.enc p) ∧ Box w0.heap.size w' i6 28 (Lies.enc b) ∧ Box w0.heap.size w' i13 33 (Lies.enc (⟨b.prod, b.epoch, p, l3, c3, L3⟩ : Maker)) ∧ Own B w' 3 a c D.E ∧ Own B w' 33 b2 d L ∧ DRs B w' L ∧ DR w0.heap.size w' (⟨b.prod, b.epoch, p, l3, c3, L3⟩ : Maker) ∧ Own w0.heap.size w' 33 x.2.1 x.2.2 (dOut L (⟨b.prod, b.epoch, p, l3, c3, L3⟩ : Maker) j x.1) ∧ dPut L (⟨b.prod, b.epoch, p, l3, c3, L3⟩ : Maker) (j + 1) x.1 ∧ (∀ k, inBlock x.2.1 k → k ≠ i13)) ?_ ?_
            · refine WP.cond rfl (fun hc => ?_) (fun hc => ?_)
              · refine WP.regionS ?_
                refine RL.r (mvL rfl) rfl ?_
                refine RL.m (ldS_box rfl hb13 (Nat.le_of_ble_eq_true rfl) rfl) rfl ?_
                refine RL.buildSlice w0.heap.size H.size rfl rfl rfl rfl rfl ?_
                intro w18 i96 hi96 hx hb96
                replace H := H.ext hx; replace hbt := hbt.ext hx; replace hb5 := hb5.ext hx; replace hb6 := hb6.ext hx; replace hb13 := hb13.ext hx; replace hE := hE.ext hx; replace hO := hO.ext hx; replace hDr := hDr.ext hx; replace hmm := hmm.ext hx; replace hRs := hRs.ext hx; clear hx
                refine RL.appendS rfl hRs (Upd.size H) rfl (show Sl _ _ [(⟨b.prod, b.epoch, p, l3, c3, L3⟩ : Maker)] from Box.sl1 hb96) rfl rfl (by decide) rfl cell1 (by omega) (by simp only [maxLen]; omega) rfl ?_
                intro w19 a97 c97 hu hb97 hfr97
                replace hbt := hbt.upd hu (fun h => hRs.box_apart hbt (by decide) h)
                replace hb5 := hb5.upd hu (fun h => hRs.box_apart hb5 (by decide) h)
                replace hb6 := hb6.upd hu (fun h => hRs.box_apart hb6 (by decide) h)
                replace hE := hE.upd hu (fun j hj e => hE.apart hRs (by decide) hj e)
                replace hO := hO.upd hu (fun j hj e => by have h1 := hOlt j hj; have h2 := (hRs.blk e).1; omega)
                replace hDr := hDr.upd hu (fun x hx j hj e => by have h1 := hDlt x hx j hj; have h2 := (hRs.blk e).1; omega)
                replace H := Upd.own H hRs hu
                have hneN : ∀ k, inBlock a97 k → k ≠ i13 := fun k hk => by
                  rcases hfr97 k hk with h9 | h9
                  · exact hne k h9
                  · have := hb13.lt; omega
                replace hb13 := hb13.upd hu (fun h => hne _ h rfl)
                replace hmm := hmm.upd hu (fun j hj e => hmm.nown hRs (by decide) j hj e)
                have hpf : put = false := by have h9 := hc.1; cases put <;> simp_all
                subst hpf
                rw [dOut_now hpt] at hb97 ⊢
                refine RL.r (asgL rfl) rfl ?_
                refine RL.nil ?_
                refine WP.region ?_
                refine RL.r (asgB rfl) rfl ?_
                refine RL.nil ?_
                refine ⟨(true, a97, c97), Head.intro (by repeat (first | with_reducible exact AgreeOff.refl _ _ | with_reducible exact AgreeOff.mix _ _ _ | refine AgreeOff.look rfl ?_ | refine AgreeOff.mixs rfl ?_)) ⟨rfl, rfl, trivial⟩, H, hbt, hb5, hb6, hb13, hE, hO, hDr, hmm, hb97, dPut_now hj hc.2, hneN⟩
              · refine WP.skip ?_
                refine ⟨(put, a14, c14), Head.intro (by repeat (first | with_reducible exact AgreeOff.refl _ _ | with_reducible exact AgreeOff.mix _ _ _ | refine AgreeOff.look rfl ?_ | refine AgreeOff.mixs rfl ?_)) ⟨rfl, rfl, trivial⟩, H, hbt, hb5, hb6, hb13, hE, hO, hDr, hmm, hRs, dPut_keep hpt hj hc, hne⟩
            rintro ⟨put2, a15, c15⟩ jc w20 ⟨H, hbt, hb5, hb6, hb13, hE, hO, hDr, hmm, hRs, hpt2, hne⟩
            try dsimp only at hRs
            try dsimp only at hpt2
            try dsimp only at hne
            refine WP.seq ?_
            refine WP.draw (by kernel_rfl) ?_
            refine QL.r (mvP rfl) rfl ?_
            refine QL.r (nilck rfl) rfl ?_
            refine QL.r (fa_box rfl) rfl ?_
            refine QL.m (ld_box rfl hbt rfl) rfl ?_
            refine QL.r (mvI rfl) rfl ?_
            have hdl2 := dOut_le (L := L) (m := (⟨b.prod, b.epoch, p, l3, c3, L3⟩ : Maker)) (j := j) (put := put2)
            refine QL.r (ix_o rfl rfl rfl hj (hO.sl.someA (by decide) hj)) rfl ?_
            refine QL.m (ldS_o0 rfl hO.sl (Ext.refl _) rfl rfl hj (by decide)) rfl ?_
            refine QL.m (ldS_box rfl hb13 (Nat.le_of_ble_eq_true rfl) rfl) rfl ?_
            -- call stagecoach/stagecoachref08.Before (tmp 104) (tmp 105)
            have hB2 : ∀ w', Ext w20 w' → Ct Try.prog 22 #[.agg (Lies.enc L[j]).toArray, .agg (Lies.enc (⟨b.prod, b.epoch, p, l3, c3, L3⟩ : Maker)).toArray] w' fun v w'' => v = .bool (decide (bfr L[j] (⟨b.prod, b.epoch, p, l3, c3, L3⟩ : Maker))) ∧ Ext w' w'' := fun w' _ => rBfr w' _ _ (hLt j hj)
            refine QL.call (fun w' hw' => hB2 w' hw') rfl rfl ?_
            refine QL.r (mvB rfl) rfl ?_
            refine QL.gg (gwF rfl rfl) (fun hg => ldS_box rfl hb13 (Nat.le_of_ble_eq_true rfl) rfl) rfl ?_
            refine QL.gg (gwF rfl rfl) (fun hg => (mvP rfl).does _) rfl ?_
            refine QL.gg (gwF rfl rfl) (fun hg => (nilck (gs hg rfl)).does _) rfl ?_
            refine QL.gg (gwF rfl rfl) (fun hg => (fa_box (gs hg rfl)).does _) rfl ?_
            refine QL.gg (gwF rfl rfl) (fun hg => ld_box (gs hg rfl) hbt rfl) rfl ?_
            refine QL.gg (gwF rfl rfl) (fun hg => (mvI rfl).does _) rfl ?_
            refine QL.gg (gwF rfl rfl) (fun hg => (ix_o (gs hg rfl) (gs hg rfl) rfl hj (hO.sl.someA (by decide) hj)).does _) rfl ?_
            refine QL.gg (gwF rfl rfl) (fun hg => ldS_o0 (gs hg rfl) hO.sl (Ext.refl _) rfl rfl hj (by decide)) rfl ?_
            -- call stagecoach/stagecoachref08.Before (tmp 108) (tmp 115)
            have hB3 : ∀ w', Ext w20 w' → Ct Try.prog 22 #[.agg (Lies.enc (⟨b.prod, b.epoch, p, l3, c3, L3⟩ : Maker)).toArray, .agg (Lies.enc L[j]).toArray] w' fun v w'' => v = .bool (decide (bfr (⟨b.prod, b.epoch, p, l3, c3, L3⟩ : Maker) L[j])) ∧ Ext w' w'' := fun w' _ => rBfr w' _ _ hp
            refine QL.gcall (gwF rfl rfl) (fun hg w' hw' => hB3 w' hw') (fun hg => EvL.cons (gs hg rfl) (EvL.cons (gs hg rfl) EvL.nil)) rfl ?_
            refine QL.r (pickOr rfl (fun hn => gs hn rfl)) rfl ?_
            refine QL.nil ?_; intro w23 hx; replace H := H.ext hx; replace hbt := hbt.ext hx; replace hb5 := hb5.ext hx; replace hb6 := hb6.ext hx; replace hb13 := hb13.ext hx; replace hE := hE.ext hx; replace hO := hO.ext hx; replace hDr := hDr.ext hx; replace hmm := hmm.ext hx; replace hRs := hRs.ext hx
            refine WP.cond rfl (fun hc => ?_) (fun hc => ?_)
            · refine WP.region ?_
              refine RL.r (mvL rfl) rfl ?_
              refine RL.r (mvP rfl) rfl ?_
              refine RL.r (nilck rfl) rfl ?_
              refine RL.r (fa_box rfl) rfl ?_
              refine RL.m (ld_box rfl hbt rfl) rfl ?_
              refine RL.r (mvI rfl) rfl ?_
              refine RL.r (ix_o rfl rfl rfl hj (hO.sl.someA (by decide) hj)) rfl ?_
              refine RL.m (ldS_o0 rfl hO.sl (Ext.refl _) rfl rfl hj (by decide)) rfl ?_
              refine RL.buildSlice w0.heap.size H.size rfl rfl rfl rfl rfl ?_
              intro w24 i126 hi126 hx hb126
              replace H := H.ext hx; replace hbt := hbt.ext hx; replace hb5 := hb5.ext hx; replace hb6 := hb6.ext hx; replace hb13 := hb13.ext hx; replace hE := hE.ext hx; replace hO := hO.ext hx; replace hDr := hDr.ext hx; replace hmm := hmm.ext hx; replace hRs := hRs.ext hx; clear hx
              refine RL.appendS rfl hRs (Upd.size H) rfl (show Sl _ _ [L[j]] from Box.sl1 hb126) rfl rfl (by decide) rfl cell1 (by dsimp only; omega) (by simp only [maxLen]; omega) rfl ?_
              intro w25 a127 c127 hu hb127 hfr127
              replace hbt := hbt.upd hu (fun h => hRs.box_apart hbt (by decide) h)
              replace hb5 := hb5.upd hu (fun h => hRs.box_apart hb5 (by decide) h)
              replace hb6 := hb6.upd hu (fun h => hRs.box_apart hb6 (by decide) h)
              replace hE := hE.upd hu (fun j hj e => hE.apart hRs (by decide) hj e)
              replace hO := hO.upd hu (fun j hj e => by have h1 := hOlt j hj; have h2 := (hRs.blk e).1; omega)
              replace hDr := hDr.upd hu (fun x hx j hj e => by have h1 := hDlt x hx j hj; have h2 := (hRs.blk e).1; omega)
              replace H := Upd.own H hRs hu
              have hneN : ∀ k, inBlock a127 k → k ≠ i13 := fun k hk => by
                rcases hfr127 k hk with h9 | h9
                · exact hne k h9
                · have := hb13.lt; omega
              replace hb13 := hb13.upd hu (fun h => hne _ h rfl)
              replace hmm := hmm.upd hu (fun j hj e => hmm.nown hRs (by decide) j hj e)
              refine RL.r (asgL rfl) rfl ?_
              refine RL.nil ?_
              refine WP.region ?_
              refine RL.r (mvI rfl) rfl ?_
              refine RL.r (add rfl rfl (by omega)) rfl ?_
              refine RL.r (asgI rfl) rfl ?_
              refine RL.nil ?_
              refine ⟨k - 1, by omega, j + 1, _, _, put2, by omega, Head.intro (by repeat (first | with_reducible exact AgreeOff.mix _ _ _ | refine AgreeOff.look rfl ?_ | refine AgreeOff.mixs rfl ?_)) ⟨slE (by rw [dOut_add hls hj hpt2 hc]), rfl, rfl, trivial⟩, H, hbt, hb5, hb6, hb13, hE, hO, hDr, hmm, by rw [dOut_add hls hj hpt2 hc]; exact hb127, hpt2, hneN⟩
            · refine WP.skip ?_
              refine WP.region ?_
              refine RL.r (mvI rfl) rfl ?_
              refine RL.r (add rfl rfl (by omega)) rfl ?_
              refine RL.r (asgI rfl) rfl ?_
              refine RL.nil ?_
              refine ⟨k - 1, by omega, j + 1, _, _, put2, by omega, Head.intro (by repeat (first | with_reducible exact AgreeOff.mix _ _ _ | refine AgreeOff.look rfl ?_ | refine AgreeOff.mixs rfl ?_)) ⟨slE (by rw [dOut_skip hj hc]), rfl, rfl, trivial⟩, H, hbt, hb5, hb6, hb13, hE, hO, hDr, hmm, by rw [dOut_skip hj hc]; exact hRs, hpt2, hne⟩
          · refine WP.exit ?_
            refine WP.seq ?_
            refine WP.regionS ?_
            refine RL.r (mvB rfl) rfl ?_
            first | refine RL.r (notD rfl) rfl ?_ | refine RL.r (not_ rfl) rfl ?_
            refine RL.nil ?_
            refine WP.cond rfl (fun hc => ?_) (fun hc => ?_)
            · refine WP.region ?_
              refine RL.r (mvL rfl) rfl ?_
              refine RL.m (ldS_box rfl hb13 (Nat.le_of_ble_eq_true rfl) rfl) rfl ?_
              refine RL.buildSlice w0.heap.size H.size rfl rfl rfl rfl rfl ?_
              intro w26 i132 hi132 hx hb132
              replace H := H.ext hx; replace hbt := hbt.ext hx; replace hb5 := hb5.ext hx; replace hb6 := hb6.ext hx; replace hb13 := hb13.ext hx; replace hE := hE.ext hx; replace hO := hO.ext hx; replace hDr := hDr.ext hx; replace hmm := hmm.ext hx; replace hRs := hRs.ext hx; clear hx
              refine RL.appendS rfl hRs (Upd.size H) rfl (show Sl _ _ [(⟨b.prod, b.epoch, p, l3, c3, L3⟩ : Maker)] from Box.sl1 hb132) rfl rfl (by decide) rfl cell1 (by omega) (by simp only [maxLen]; omega) rfl ?_
              intro w27 a133 c133 hu hb133 hfr133
              replace hbt := hbt.upd hu (fun h => hRs.box_apart hbt (by decide) h)
              replace hb5 := hb5.upd hu (fun h => hRs.box_apart hb5 (by decide) h)
              replace hb6 := hb6.upd hu (fun h => hRs.box_apart hb6 (by decide) h)
              replace hE := hE.upd hu (fun j hj e => hE.apart hRs (by decide) hj e)
              replace hO := hO.upd hu (fun j hj e => by have h1 := hOlt j hj; have h2 := (hRs.blk e).1; omega)
              replace hDr := hDr.upd hu (fun x hx j hj e => by have h1 := hDlt x hx j hj; have h2 := (hRs.blk e).1; omega)
              replace H := Upd.own H hRs hu
              have hneN : ∀ k, inBlock a133 k → k ≠ i13 := fun k hk => by
                rcases hfr133 k hk with h9 | h9
                · exact hne k h9
                · have := hb13.lt; omega
              replace hb13 := hb13.upd hu (fun h => hne _ h rfl)
              replace hmm := hmm.upd hu (fun j hj e => hmm.nown hRs (by decide) j hj e)
              rw [dOut_last (by omega) hc hpt] at hb133 ⊢
              refine RL.r (asgL rfl) rfl ?_
              refine RL.nil ?_
              refine WP.regionS ?_
              refine RL.r (mvP rfl) rfl ?_
              refine RL.r (mvL rfl) rfl ?_
              refine RL.r (nilck rfl) rfl ?_
              refine RL.r (fa_box rfl) rfl ?_
              have hbt_0 := hbt
              refine RL.store1 rfl hbt rfl rfl rfl rfl ?_
              intro w28 hu hbt
              replace hE := hE.upd hu (fun j hj e => hE.box_apart hbt_0 (by decide) (e ▸ hj))
              replace hO := hO.upd hu (fun j hj e => hO.box_apart hbt_0 (by decide) (e ▸ hj))
              replace hDr := hDr.bx hbt_0 (by decide) hu
              replace hmm := hmm.upd hu (fun j hj e => hmm.nbox hbt_0 (by decide) (e ▸ hj))
              replace hb133 := hb133.upd hu (fun j hj e => hb133.box_apart hbt_0 (by decide) (e ▸ hj))
              replace H := Upd.upd H hu (fun j _ hj => by rw [hY]; exact .inl hj); replace hb5 := hb5.upd hu (Ne.symm net_5); replace hb6 := hb6.upd hu (Ne.symm net_6); replace hb13 := hb13.upd hu (Ne.symm net_13)
              refine RL.nil ?_
              refine WP.regionS ?_
              refine RL.r (asgI rfl) rfl ?_
              refine RL.nil ?_
              refine WP.ret ?_
              have hmk : (⟨b.prod, b.epoch, p, l3, c3, L3⟩ : Maker).mk' = mkP D.E ⟨b.prod, p, pushL (lastD D.S ⟨b.prod, p⟩) (⟨b.seq, (b.recs.length : Int), off⟩ : Did)⟩ := by
                show (⟨b.prod, b.epoch, p, L3⟩ : Mk) = ⟨b.prod, ep D.E b.prod, p, pushL (lastD D.S ⟨b.prod, p⟩) (⟨b.seq, (b.recs.length : Int), off⟩ : Did)⟩
                rw [hepo, hL3]
              refine fin1_ret rfl ⟨⟨intE hE1.symm, terrR i a a133 (ePut L (⟨b.prod, b.epoch, p, l3, c3, L3⟩ : Maker)), ?_, ?_⟩, H⟩
              · unfold doneD
                rw [if_pos ⟨hE1, hp0⟩]
                refine ⟨a, c, a133, c133, _, ⟨hbt, hE, hb133.mono hBs, fun x hx => ?_⟩, ?_, rfl⟩
                · rcases ePut_mem.1 hx with rfl | ⟨h1, _⟩
                  · exact hmm.mono hBs
                  · exact hDr x h1
                · rw [← ePut_map (fun v => key_mk v), hLm, hmk, ePut_map (f := mkP D.E) (fun v => rfl)]
              · rw [hY]
                rintro k (h | h | h | ⟨x, hx, h⟩)
                · exact .inl (.inl h)
                · exact .inl (.inr (.inl h))
                · exact .inr (hb133.blk h).1
                · rcases ePut_mem.1 hx with rfl | ⟨h1, _⟩
                  · exact .inr (hmm.lt h).1
                  · exact .inl (.inr (.inr (.inr ⟨x, h1, h⟩)))
            · refine WP.skip ?_
              refine WP.regionS ?_
              refine RL.r (mvP rfl) rfl ?_
              refine RL.r (mvL rfl) rfl ?_
              refine RL.r (nilck rfl) rfl ?_
              refine RL.r (fa_box rfl) rfl ?_
              have hbt_0 := hbt
              refine RL.store1 rfl hbt rfl rfl rfl rfl ?_
              intro w29 hu hbt
              replace hE := hE.upd hu (fun j hj e => hE.box_apart hbt_0 (by decide) (e ▸ hj))
              replace hO := hO.upd hu (fun j hj e => hO.box_apart hbt_0 (by decide) (e ▸ hj))
              replace hDr := hDr.bx hbt_0 (by decide) hu
              replace hmm := hmm.upd hu (fun j hj e => hmm.nbox hbt_0 (by decide) (e ▸ hj))
              replace hRs := hRs.upd hu (fun j hj e => hRs.box_apart hbt_0 (by decide) (e ▸ hj))
              replace H := Upd.upd H hu (fun j _ hj => by rw [hY]; exact .inl hj); replace hb5 := hb5.upd hu (Ne.symm net_5); replace hb6 := hb6.upd hu (Ne.symm net_6); replace hb13 := hb13.upd hu (Ne.symm net_13)
              refine RL.nil ?_
              refine WP.regionS ?_
              refine RL.r (asgI rfl) rfl ?_
              refine RL.nil ?_
              refine WP.ret ?_
              rw [dOut_end (by omega) (by cases put <;> simp_all)] at hRs hbt
              have hmk : (⟨b.prod, b.epoch, p, l3, c3, L3⟩ : Maker).mk' = mkP D.E ⟨b.prod, p, pushL (lastD D.S ⟨b.prod, p⟩) (⟨b.seq, (b.recs.length : Int), off⟩ : Did)⟩ := by
                show (⟨b.prod, b.epoch, p, L3⟩ : Mk) = ⟨b.prod, ep D.E b.prod, p, pushL (lastD D.S ⟨b.prod, p⟩) (⟨b.seq, (b.recs.length : Int), off⟩ : Did)⟩
                rw [hepo, hL3]
              refine fin1_ret rfl ⟨⟨intE hE1.symm, terrR i a a14 (ePut L (⟨b.prod, b.epoch, p, l3, c3, L3⟩ : Maker)), ?_, ?_⟩, H⟩
              · unfold doneD
                rw [if_pos ⟨hE1, hp0⟩]
                refine ⟨a, c, a14, c14, _, ⟨hbt, hE, hRs.mono hBs, fun x hx => ?_⟩, ?_, rfl⟩
                · rcases ePut_mem.1 hx with rfl | ⟨h1, _⟩
                  · exact hmm.mono hBs
                  · exact hDr x h1
                · rw [← ePut_map (fun v => key_mk v), hLm, hmk, ePut_map (f := mkP D.E) (fun v => rfl)]
              · rw [hY]
                rintro k (h | h | h | ⟨x, hx, h⟩)
                · exact .inl (.inl h)
                · exact .inl (.inr (.inl h))
                · exact .inr (hRs.blk h).1
                · rcases ePut_mem.1 hx with rfl | ⟨h1, _⟩
                  · exact .inr (hmm.lt h).1
                  · exact .inl (.inr (.inr (.inr ⟨x, h1, h⟩)))
end Go.Proofs.Ytbggmjnhfacjpaa
