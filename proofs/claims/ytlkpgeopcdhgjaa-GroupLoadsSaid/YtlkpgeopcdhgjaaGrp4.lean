/-
  The walks of a group's Expire.
-/
import Derived.Test.YtlkpgeopcdhgjaaGrp3
set_option linter.unusedVariables false
namespace Go.Proofs.Ytlkpgeopcdhgjaa
open Go Go.Eng Go.RowKit
/-- is the member of that name late? -/
def lateN (S : List St) (now : Int) (name : ByteArray) : Bool := match eGet S name with
  | some x => late now x
  | none => decide (0 ≤ now)
def lateH (H : List Seat) (now : Int) (name : ByteArray) : Prop := ((eGet H name).getD zSeat).seen + ((eGet H name).getD zSeat).timeout ≤ now
theorem lateN_iff {H : List Seat} {S : List St} (hst : H.map Seat.st = S) (now : Int) (name : ByteArray) : lateN S now name = true ↔ lateH H now name := by
  unfold lateN lateH
  rw [st_get hst]
  cases eGet H name with
  | none => simp [zSeat]
  | some h => simp [late, Seat.st]
theorem lateN_in {S : List St} (hs : S.Pairwise bfr) {x : St} (hx : x ∈ S) (now : Int) : lateN S now x.name = late now x := by
  unfold lateN
  rw [show eGet S x.name = some x from eGet_mem (srt_nodup hs) hx]
theorem expL_eq {G : Gs} (hs : G.S.Pairwise bfr) (now : Int) : (names G.S).filter (lateN G.S now) = expL G now := by
  unfold names expL
  rw [List.filter_map]
  congr 1
  apply List.filter_congr
  intro x hx
  exact lateN_in hs hx now
theorem own_le {α : Type} [Lies α] {B : Nat} {w : World} {T : TypeId} {a : Option Addr} {c : Nat} {l : List α} (h : Own B w T a c l) : l.length ≤ c := by
  rcases h.cases with ⟨_, rfl, rfl⟩ | ⟨g, cur, _, _, _, h, _⟩
  · simp
  · exact h
def delAll {V K : Type} [DecidableEq K] [Keyed V K] (H : List V) (ks : List K) : List V := H.filter fun x => decide (key x ∉ ks)
theorem delAll_nil {V K : Type} [DecidableEq K] [Keyed V K] (H : List V) : delAll H ([] : List K) = H := by unfold delAll; rw [List.filter_eq_self]; simp
theorem delAll_push {V K : Type} [DecidableEq K] [Keyed V K] (H : List V) (ks : List K) (k : K) : eDel (delAll H ks) k = delAll H (ks ++ [k]) := by
  unfold eDel delAll
  rw [List.filter_filter]
  apply List.filter_congr
  intro x _
  rw [Bool.eq_iff_iff]
  simp only [Bool.and_eq_true, decide_eq_true_eq, List.mem_append, List.mem_singleton]
  constructor
  · rintro ⟨h1, h2⟩ (h | h)
    · exact h2 h
    · exact h1 h
  · intro h
    exact ⟨fun h' => h (.inr h'), fun h' => h (.inl h')⟩
theorem delAll_exp {H : List Seat} {G : Gs} (hst : H.map Seat.st = G.S) (hs : G.S.Pairwise bfr) (now : Int) : (delAll H (expL G now)).map Seat.st = expS G.S now := by
  unfold expS delAll
  rw [← hst, List.filter_map]
  congr 1
  apply List.filter_congr
  intro x hx
  have hx2 : x.st ∈ G.S := by rw [← hst]; exact List.mem_map.2 ⟨x, hx, rfl⟩
  rw [Bool.eq_iff_iff]
  simp only [decide_eq_true_eq, Function.comp, Bool.not_eq_true']
  unfold expL
  constructor
  · intro h
    cases hl : late now x.st with
    | false => rfl
    | true => exact absurd (List.mem_map.2 ⟨x.st, List.mem_filter.2 ⟨hx2, hl⟩, rfl⟩) h
  · intro h h2
    obtain ⟨y, hy, hy2⟩ := List.mem_map.1 h2
    obtain ⟨h3, h4⟩ := List.mem_filter.1 hy
    have : y = x.st := key_inj (srt_nodup hs) h3 hx2 hy2
    subst this
    rw [h] at h4
    cases h4
theorem gLate (w0 : World) (B B2 B3 i m i2 i3 : Nat) (G : Gs) (now : Int) (hT : Tg B w0 i m G) (hb3 : Box B3 w0 i3 3 [.int .i64 now]) (hb2 : Box B2 w0 i2 22 [.pointer (some ⟨i, 0, none⟩)]) (name : ByteArray) :
    Ct Try.prog 36 #[.string name, .pointer (some ⟨i3, 0, none⟩), .pointer (some ⟨i2, 0, none⟩)] w0 fun v w' => v = .bool (decide (lateN G.S now name = true)) ∧ Ext w0 w' := by
  refine Ct.intro1 Try.func36 Try.ntmps36 rfl rfl (by decide) rfl ?_
  have H : Ext w0 w0 := Ext.refl w0
  obtain ⟨H0, lb, c, hm, hr, hst, how⟩ := hT.map
  have hbt := hT.box
  have hok := hT.ok
  have hbd : 0 ≤ ((eGet H0 name).getD zSeat).seen ∧ ((eGet H0 name).getD zSeat).seen ≤ 1099511627776 ∧ 0 ≤ ((eGet H0 name).getD zSeat).timeout ∧ ((eGet H0 name).getD zSeat).timeout ≤ 1099511627776 := by
    cases hq : eGet H0 name with
    | none => decide
    | some h =>
      have h1 := hok.may h.st (by rw [← hst]; exact List.mem_map.2 ⟨h, (eGet_some hq).1, rfl⟩)
      obtain ⟨_, _, _, _, _, h6, h7⟩ := h1
      exact ⟨h7.1, h7.2, h6.1, h6.2⟩
  obtain ⟨hbd1, hbd2, hbd3, hbd4⟩ := hbd
  refine WP.regionS ?_
  refine RL.r (asgB rfl) rfl ?_
  refine RL.nil ?_
  refine WP.seq ?_
  refine WP.draw (by kernel_rfl) ?_
  refine QL.m (ld_box rfl hb3 rfl) rfl ?_
  refine QL.m (ld_box rfl hb2 rfl) rfl ?_
  refine QL.r (nilck rfl) rfl ?_
  refine QL.r (fa_box rfl) rfl ?_
  refine QL.m (ld_box rfl hbt rfl) rfl ?_
  refine QL.r (mvS rfl) rfl ?_
  refine QL.m (lkS (z0 := zSeat) (k := name) rfl hm rfl (rep_get hr hm.nod _) rfl) rfl ?_
  refine QL.r (fld_v rfl rfl) rfl ?_
  refine QL.m (ld_box rfl hb2 rfl) rfl ?_
  refine QL.r (nilck rfl) rfl ?_
  refine QL.r (fa_box rfl) rfl ?_
  refine QL.m (ld_box rfl hbt rfl) rfl ?_
  refine QL.r (mvS rfl) rfl ?_
  refine QL.m (lkS (z0 := zSeat) (k := name) rfl hm rfl (rep_get hr hm.nod _) rfl) rfl ?_
  refine QL.r (fld_v rfl rfl) rfl ?_
  refine QL.r (add rfl rfl (by omega)) rfl ?_
  refine QL.r (geq rfl rfl) rfl ?_
  refine QL.r (asgB rfl) rfl ?_
  refine QL.nil ?_; intro w1 hx; replace H := H.ext hx; replace hbt := hbt.ext hx; replace hb3 := hb3.ext hx; replace hb2 := hb2.ext hx; replace hm := hm.ext hx
  refine WP.ret ?_
  refine fin1_ret rfl ⟨congrArg Value.bool (bD (lateN_iff hst now name).symm), H⟩
theorem gSoon (w0 : World) (B B2 B3 B5 i m i2 i3 i5 : Nat) (G : Gs) (now : Int) (hT : Tg B w0 i m G) (hb3 : Box B3 w0 i3 3 [.int .i64 now]) (hb2 : Box B2 w0 i2 22 [.pointer (some ⟨i, 0, none⟩)]) (hb5 : Box B5 w0 i5 80 [.func (.func 36) #[] #[.pointer (some ⟨i3, 0, none⟩), .pointer (some ⟨i2, 0, none⟩)]]) (name : ByteArray) :
    Ct Try.prog 39 #[.string name, .pointer (some ⟨i5, 0, none⟩)] w0 fun v w' => v = .bool (decide ((!lateN G.S now name) = true)) ∧ Ext w0 w' := by
  refine Ct.intro1 Try.func39 Try.ntmps39 rfl rfl (by decide) rfl ?_
  have H : Ext w0 w0 := Ext.refl w0
  refine WP.regionS ?_
  refine RL.r (asgB rfl) rfl ?_
  refine RL.nil ?_
  refine WP.regionS ?_
  refine RL.m (ld_box rfl hb5 rfl) rfl ?_
  refine RL.r (mvS rfl) rfl ?_
  -- call VALUE (tmp 4) (tmp 5)
  refine RL.callv (vs := [.string name]) (cap := [.pointer (some ⟨i3, 0, none⟩), .pointer (some ⟨i2, 0, none⟩)]) rfl (gLate _ B B2 B3 i m i2 i3 G now hT hb3 hb2 name) rfl rfl ?_
  rintro _ w1 ⟨rfl, hx⟩
  replace H := H.ext hx; replace hb5 := hb5.ext hx
  first | refine RL.r (notD rfl) rfl ?_ | refine RL.r (not_ rfl) rfl ?_
  refine RL.r (asgB rfl) rfl ?_
  refine RL.nil ?_
  refine WP.ret ?_
  refine fin1_ret rfl ⟨congrArg Value.bool (bD (by cases lateN G.S now name <;> simp)), H⟩
theorem gIndexF (w0 : World) (a : Option Addr) (c : Nat) (l : List ByteArray) (hl : Sl w0 a l) (hlen : l.length ≤ 100000) (f : FuncId) (cap : List Value) (p : ByteArray → Bool) (hP : ∀ w' s, Upd (inBlock a) w0 w' → Ct Try.prog f ([Value.string s] ++ cap).toArray w' fun v w'' => v = .bool (decide (p s = true)) ∧ Ext w' w'') :
    Ct Try.prog 58 #[.slice a l.length c, .func (.func f) #[] cap.toArray] w0 fun v w' => (∃ r : Int, v = .int .i64 r ∧ ((r = -1 ∧ ∀ x ∈ l, p x = false) ∨ ∃ (j : Nat) (h : j < l.length), r = (j : Int) ∧ p l[j] = true ∧ ∀ (i : Nat) (h : i < l.length), i < j → p l[i] = false)) ∧ Ext w0 w' := by
  refine Ct.intro1 Try.func58 Try.ntmps58 rfl rfl (by decide) rfl ?_
  have H : Ext w0 w0 := Ext.refl w0
  refine WP.regionS ?_
  refine RL.r (asgI rfl) rfl ?_
  refine RL.nil ?_
  refine WP.seq ?_
  refine WP.regionS ?_
  refine RL.r (mvL rfl) rfl ?_
  refine RL.r (len_sl rfl) rfl ?_
  refine RL.r (mvI rfl) rfl ?_
  refine RL.nil ?_
  refine WP.block ?_
  refine WP.loop (fun k e' w' => ∃ j : Nat,  j + k = l.length ∧ Head [4, 5, 8, 9, 10, 11, 12, 13, 14, 15, 16, 17, 18] _ [(8, .int .i64 (j : Int))] e' ∧ Ext w0 w' ∧ ∀ (i : Nat) (h : i < l.length), i < j → p l[i] = false) (l.length)
    ⟨0, by omega, Head.intro (AgreeOff.refl _ _) ⟨rfl, trivial⟩, H, fun i h hi => by omega⟩ ?_
  clear H
  rintro k e w1 ⟨j, hjk, ⟨jk, rfl⟩, H, hok⟩
  refine WP.regionS ?_
  refine RL.r (lss rfl rfl) rfl ?_
  refine RL.nil ?_
  refine WP.seq ?_
  refine WP.cond rfl (fun hc => ?_) (fun hc => ?_)
  · refine WP.skip ?_
    refine WP.seq ?_
    refine WP.block ?_
    refine WP.regionS ?_
    refine RL.r (mvI rfl) rfl ?_
    refine RL.r (asgI rfl) rfl ?_
    refine RL.nil ?_
    refine WP.regionS ?_
    refine RL.r (mvF rfl) rfl ?_
    refine RL.r (mvL rfl) rfl ?_
    refine RL.r (mvI rfl) rfl ?_
    have hj : j < l.length := by omega
    have hl2 := hl
    obtain ⟨q, hq⟩ := hl.isAddr (by decide) hj
    subst hq
    refine RL.r (ix rfl rfl rfl (by omega)) rfl ?_
    refine RL.m (ld_e0 rfl hl H rfl (by omega) rfl) rfl ?_
    -- call VALUE (tmp 11) (tmp 15)
    refine RL.callv (vs := [.string l[j]]) (cap := cap) rfl (hP _ l[j] H.toUpd) rfl rfl ?_
    rintro _ w2 ⟨rfl, hx⟩
    replace H := H.ext hx
    refine RL.nil ?_
    refine WP.cond rfl (fun hc => ?_) (fun hc => ?_)
    · refine WP.regionS ?_
      refine RL.r (mvI rfl) rfl ?_
      refine RL.r (asgI rfl) rfl ?_
      refine RL.nil ?_
      refine WP.ret ?_
      refine fin1_ret rfl ⟨⟨_, rfl, .inr ⟨j, hj, rfl, hc, hok⟩⟩, H⟩
    · refine WP.skip ?_
      refine WP.region ?_
      refine RL.r (add rfl rfl (by omega)) rfl ?_
      refine RL.r (mvI rfl) rfl ?_
      refine RL.nil ?_
      refine ⟨k - 1, by omega, j + 1, by omega, Head.intro (by repeat (first | with_reducible exact AgreeOff.mix _ _ _ | refine AgreeOff.look rfl ?_ | refine AgreeOff.mixs rfl ?_)) ⟨rfl, trivial⟩, H, fun i h hi => ?_⟩
      by_cases hij : i < j
      · exact hok i h hij
      · obtain rfl : i = j := by omega
        simpa using hc
  · refine WP.exit ?_
    refine WP.regionS ?_
    refine RL.r (asgI rfl) rfl ?_
    refine RL.nil ?_
    refine WP.ret ?_
    refine fin1_ret rfl ⟨⟨_, rfl, .inl ⟨rfl, fun x hx => ?_⟩⟩, H⟩
    obtain ⟨n, hn, rfl⟩ := List.getElem_of_mem hx
    exact hok n hn (by omega)
theorem filt_skip {l : List ByteArray} {p : ByteArray → Bool} {j : Nat} (hj : j < l.length) (h : p l[j] = true) : (l.take (j + 1)).filter (fun x => !p x) = (l.take j).filter (fun x => !p x) := by
  rw [List.take_succ_eq_append_getElem hj, List.filter_append]
  simp [h]
theorem filt_keep {l : List ByteArray} {p : ByteArray → Bool} {j : Nat} (hj : j < l.length) (h : p l[j] = false) : (l.take (j + 1)).filter (fun x => !p x) = (l.take j).filter (fun x => !p x) ++ [l[j]] := by
  rw [List.take_succ_eq_append_getElem hj, List.filter_append]
  simp [h]
theorem filt_all {l : List ByteArray} {p : ByteArray → Bool} {j : Nat} (hj : j ≤ l.length) (h : ∀ (i : Nat) (h : i < l.length), i < j → p l[i] = false) : (l.take j).filter (fun x => !p x) = l.take j := by
  rw [List.filter_eq_self]
  intro x hx
  obtain ⟨n, hn, rfl⟩ := List.getElem_of_mem hx
  rw [List.length_take] at hn
  rw [List.getElem_take, h n (by omega) (by omega)]
  rfl
theorem drop_getE {L l : List ByteArray} {n : Nat} (h : L.drop n = l.drop n) (hn : n < l.length) (hL : n < L.length) : L[n] = l[n] ∧ L.drop (n + 1) = l.drop (n + 1) := by
  rw [List.drop_eq_getElem_cons hn, List.drop_eq_getElem_cons hL] at h
  injection h with h1 h2
  exact ⟨h1, h2⟩
theorem gDeleteF (w0 : World) (B : Nat) (a : Option Addr) (c : Nat) (l : List ByteArray) (hB : B ≤ w0.heap.size) (ho : Own B w0 9 a c l) (hlen : l.length ≤ 100000) (f : FuncId) (cap : List Value) (p : ByteArray → Bool) (hP : ∀ w' s, Upd (inBlock a) w0 w' → Ct Try.prog f ([Value.string s] ++ cap).toArray w' fun v w'' => v = .bool (decide (p s = true)) ∧ Ext w' w'') :
    Ct Try.prog 37 #[.slice a l.length c, .func (.func f) #[] cap.toArray] w0 fun v w' => (v = .slice a (l.filter fun x => !p x).length c ∧ Own B w' 9 a c (l.filter fun x => !p x)) ∧ Upd (inBlock a) w0 w' := by
  refine Ct.intro1 Try.func37 Try.ntmps37 rfl rfl (by decide) rfl ?_
  have H : Upd (inBlock a) w0 w0 := Upd.refl _ w0
  have hO := ho
  refine WP.regionS ?_
  refine RL.r (asgL rfl) rfl ?_
  refine RL.nil ?_
  refine WP.regionS ?_
  refine RL.r (mvL rfl) rfl ?_
  refine RL.r (mvF rfl) rfl ?_
  -- call slices.IndexFunc[[]string,string] (tmp 8) (tmp 9)
  refine RL.call (gIndexF _ a c l ho.sl hlen f cap p hP) rfl rfl ?_
  rintro v w1 ⟨⟨r, rfl, hr⟩, hx⟩
  replace H := H.ext hx; replace hO := hO.ext hx
  have hrb : -1 ≤ r ∧ r < (l.length : Int) := by rcases hr with ⟨h, _⟩ | ⟨j, hj, h, _⟩ <;> omega
  refine RL.r (asgI rfl) rfl ?_
  refine RL.nil ?_
  refine WP.seq ?_
  refine WP.regionS ?_
  refine RL.r (mvI rfl) rfl ?_
  refine RL.r (eql rfl rfl) rfl ?_
  refine RL.nil ?_
  refine WP.cond rfl (fun hc => ?_) (fun hc => ?_)
  · refine WP.regionS ?_
    refine RL.r (mvL rfl) rfl ?_
    refine RL.r (asgL rfl) rfl ?_
    refine RL.nil ?_
    refine WP.ret ?_
    have hall : ∀ x ∈ l, p x = false := by
      rcases hr with ⟨_, h⟩ | ⟨j, hj, e, _⟩
      · exact h
      · omega
    have hfl : (l.filter fun x => !p x) = l := List.filter_eq_self.2 fun x hx => by rw [hall x hx]; rfl
    refine fin1_ret rfl ⟨⟨slE (by rw [hfl]), by rw [hfl]; exact hO⟩, H⟩
  · refine WP.skip ?_
    refine WP.seq ?_
    refine WP.regionS ?_
    refine RL.r (mvI rfl) rfl ?_
    refine RL.r (add rfl rfl (by omega)) rfl ?_
    refine RL.r (asgI rfl) rfl ?_
    refine RL.nil ?_
    refine WP.block ?_
    obtain ⟨r0, hr0, e0, hpr, hbef⟩ : ∃ (j : Nat) (h : j < l.length), r = (j : Int) ∧ p l[j] = true ∧ ∀ (i : Nat) (h : i < l.length), i < j → p l[i] = false := by
      rcases hr with ⟨h, _⟩ | h
      · exact absurd h hc
      · exact h
    subst e0
    have hf0 : (l.take (r0 + 1)).filter (fun x => !p x) = l.take r0 := by rw [filt_skip hr0 hpr, filt_all (by omega) hbef]
    refine WP.loop (fun k e' w' => ∃ j : Nat, ∃ L : List ByteArray,  j + k = l.length - (r0 + 1) ∧ Head [5, 6, 7, 16, 17, 18, 19, 20, 21, 22, 23, 24, 25, 26, 27, 28, 29, 30, 31, 32, 33, 34, 35] _ [(5, .int .i64 ((((l.take (r0 + 1 + j)).filter fun x => !p x).length : Nat) : Int)), (6, .int .i64 (((r0 + 1 + j) : Nat) : Int))] e' ∧ Upd (inBlock a) w0 w' ∧ Own B w' 9 a c L ∧ L.length = l.length ∧ L.take ((l.take (r0 + 1 + j)).filter fun x => !p x).length = ((l.take (r0 + 1 + j)).filter fun x => !p x) ∧ L.drop (r0 + 1 + j) = l.drop (r0 + 1 + j) ∧ ((l.take (r0 + 1 + j)).filter fun x => !p x).length < (r0 + 1 + j)) (l.length - (r0 + 1))
      ⟨0, l, by omega, Head.intro (AgreeOff.refl _ _) ⟨intE (by rw [Nat.add_zero, hf0, List.length_take]; omega), intE (by omega), trivial⟩, H, hO, rfl, (by rw [Nat.add_zero, hf0, List.length_take, Nat.min_eq_left (by omega)]), rfl, (by rw [Nat.add_zero, hf0, List.length_take]; omega)⟩ ?_
    clear H hO
    rintro k e w2 ⟨j, L, hjk, ⟨jk, rfl⟩, H, hO, hLl, hLt, hLd, hlt⟩
    have hcap := own_le hO
    refine WP.seq ?_
    refine WP.regionS ?_
    refine RL.r (mvI rfl) rfl ?_
    refine RL.r (mvL rfl) rfl ?_
    refine RL.r (len_sl rfl) rfl ?_
    refine RL.r (lss rfl rfl) rfl ?_
    refine RL.nil ?_
    refine WP.cond rfl (fun hc => ?_) (fun hc => ?_)
    · refine WP.skip ?_
      refine WP.seq ?_
      refine WP.block ?_
      refine WP.regionS ?_
      refine RL.r (mvL rfl) rfl ?_
      refine RL.r (mvI rfl) rfl ?_
      have hj : r0 + 1 + j < l.length := by omega
      have hjL : r0 + 1 + j < L.length := by omega
      obtain ⟨hLj, hLd2⟩ := drop_getE hLd hj hjL
      obtain ⟨q, hq⟩ := hO.sl.isAddr (by decide) hjL
      subst hq
      refine RL.r (ix rfl rfl rfl (by rw [← hLl]; exact hjL)) rfl ?_
      refine RL.m (ld_e0 rfl hO.sl (Ext.refl _) rfl hjL (show _ = some (Value.string l[r0 + 1 + j]) by rw [← hLj]; rfl)) rfl ?_
      refine RL.r (asgS rfl) rfl ?_
      refine RL.nil ?_
      refine WP.regionS ?_
      refine RL.r (mvF rfl) rfl ?_
      refine RL.r (mvS rfl) rfl ?_
      -- call VALUE (tmp 26) (tmp 27)
      refine RL.callv (vs := [.string l[r0 + 1 + j]]) (cap := cap) rfl (hP _ l[r0 + 1 + j] H) rfl rfl ?_
      rintro _ w3 ⟨rfl, hx⟩
      replace H := H.ext hx; replace hO := hO.ext hx
      first | refine RL.r (notD rfl) rfl ?_ | refine RL.r (not_ rfl) rfl ?_
      refine RL.nil ?_
      refine WP.cond rfl (fun hc => ?_) (fun hc => ?_)
      · refine WP.regionS ?_
        refine RL.r (mvL rfl) rfl ?_
        refine RL.r (mvI rfl) rfl ?_
        refine RL.r (mvS rfl) rfl ?_
        refine RL.r (ix rfl rfl rfl (by omega)) rfl ?_
        have hpf : p l[r0 + 1 + j] = false := by simpa using hc
        refine RL.setOwn (u := l[r0 + 1 + j]) (i := ((l.take (r0 + 1 + j)).filter fun x => !p x).length) (off := 0) (v := .string l[r0 + 1 + j]) (vs := [.string l[r0 + 1 + j]]) rfl hO (by omega) rfl rfl rfl (Nat.le_of_ble_eq_true rfl) rfl (fun v hv => by obtain rfl := List.mem_singleton.1 hv; rfl) ?_
        intro w99 hu hO2
        replace H := Upd.trans H hu
        have hkp := filt_keep hj hpf
        have hkl : ((l.take (r0 + 1 + j + 1)).filter fun x => !p x).length = ((l.take (r0 + 1 + j)).filter fun x => !p x).length + 1 := by rw [hkp, List.length_append, List.length_singleton]
        refine RL.nil ?_
        refine WP.region ?_
        refine RL.r (mvI rfl) rfl ?_
        refine RL.r (add rfl rfl (by omega)) rfl ?_
        refine RL.r (asgI rfl) rfl ?_
        refine RL.nil ?_
        refine WP.region ?_
        refine RL.r (mvI rfl) rfl ?_
        refine RL.r (add rfl rfl (by omega)) rfl ?_
        refine RL.r (asgI rfl) rfl ?_
        refine RL.nil ?_
        refine ⟨k - 1, by omega, j + 1, L.set ((l.take (r0 + 1 + j)).filter fun x => !p x).length l[r0 + 1 + j], by omega, Head.intro (by repeat (first | with_reducible exact AgreeOff.mix _ _ _ | refine AgreeOff.look rfl ?_ | refine AgreeOff.mixs rfl ?_)) ⟨intE (by rw [show r0 + 1 + (j + 1) = r0 + 1 + j + 1 from rfl, hkl]; omega), intE (by omega), trivial⟩, H, hO2, by rw [List.length_set]; exact hLl, ?_, ?_, ?_⟩
        · rw [show r0 + 1 + (j + 1) = r0 + 1 + j + 1 from rfl, hkl, hkp, List.take_succ_eq_append_getElem (by rw [List.length_set]; omega), List.getElem_set_self, List.take_set_of_le (Nat.le_refl _), hLt]
        · rw [show r0 + 1 + (j + 1) = r0 + 1 + j + 1 from rfl, List.drop_set_of_lt (by omega)]
          exact hLd2
        · rw [show r0 + 1 + (j + 1) = r0 + 1 + j + 1 from rfl, hkl]; omega
      · refine WP.skip ?_
        refine WP.region ?_
        refine RL.r (mvI rfl) rfl ?_
        refine RL.r (add rfl rfl (by omega)) rfl ?_
        refine RL.r (asgI rfl) rfl ?_
        refine RL.nil ?_
        have hpt : p l[r0 + 1 + j] = true := by simpa using hc
        have hsk := filt_skip hj hpt
        refine ⟨k - 1, by omega, j + 1, L,by omega, Head.intro (by repeat (first | with_reducible exact AgreeOff.mix _ _ _ | refine AgreeOff.look rfl ?_ | refine AgreeOff.mixs rfl ?_)) ⟨intE (by rw [show r0 + 1 + (j + 1) = r0 + 1 + j + 1 from rfl, hsk]), intE (by omega), trivial⟩, H, hO, hLl, ?_, ?_, ?_⟩
        · rw [show r0 + 1 + (j + 1) = r0 + 1 + j + 1 from rfl, hsk]; exact hLt
        · exact hLd2
        · rw [show r0 + 1 + (j + 1) = r0 + 1 + j + 1 from rfl, hsk]; omega
    · refine WP.exit ?_
      refine WP.regionS ?_
      refine RL.r (mvL rfl) rfl ?_
      refine RL.r (mvI rfl) rfl ?_
      have hend : r0 + 1 + j = l.length := by omega
      rw [hend, List.take_length] at hLt hlt
      have hfle : (l.filter fun x => !p x).length ≤ l.length := List.length_filter_le _ _
      refine RL.r (slcD (n := (l.filter fun x => !p x).length) rfl rfl (by rw [hend, List.take_length]) hfle) rfl ?_
      refine RL.clearOwn (r := L) rfl rfl (by rw [hLl]) rfl rfl rfl rfl hO (by omega) ?_
      intro w5 hu hO
      replace H := Upd.trans H hu
      rw [hLt] at hO
      refine RL.nil ?_
      refine WP.regionS ?_
      refine RL.r (mvL rfl) rfl ?_
      refine RL.r (mvI rfl) rfl ?_
      refine RL.r (slcT (n := (l.filter fun x => !p x).length) rfl rfl (by rw [hend, List.take_length]) (by omega)) rfl ?_
      refine RL.r (asgL rfl) rfl ?_
      refine RL.nil ?_
      refine WP.ret ?_
      refine fin1_ret rfl ⟨⟨rfl, hO⟩, H⟩
end Go.Proofs.Ytlkpgeopcdhgjaa
