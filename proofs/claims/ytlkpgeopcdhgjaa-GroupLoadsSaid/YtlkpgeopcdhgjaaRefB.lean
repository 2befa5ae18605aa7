/-
  The document's group (out, Leave, Expire, Beat, Join, Load, Assigned, Same); Cut, same, step of the statements.
-/
import Derived.Test.YtlkpgeopcdhgjaaRef11
import Derived.Test.YtlkpgeopcdhgjaaRSeat11
import Derived.Test.YtlkpgeopcdhgjaaFix11b
import Derived.Test.YtlkpgeopcdhgjaaSlc
import Derived.Test.YtlkpgeopcdhgjaaRow
import Derived.Test.YtlkpgeopcdhgjaaPlan
set_option linter.unusedVariables false
namespace Go.Proofs.Ytlkpgeopcdhgjaa
open Go Go.Eng Go.RowKit
theorem eDel_gone {L : List Seat} {name : ByteArray} {j : Nat} (hj : j < L.length) (h : L[j].name = name) : eDel (L.take (j + 1)) name = eDel (L.take j) name := by
  unfold eDel
  rw [List.take_succ_eq_append_getElem hj, List.filter_append]
  have : List.filter (fun x => decide (key x ≠ name)) [L[j]] = [] := by
    rw [List.filter_eq_nil_iff]
    intro x hx
    obtain rfl := List.mem_singleton.1 hx
    simp only [decide_eq_true_eq]
    exact fun hn => hn h
  rw [this, List.append_nil]
theorem eDel_stays {L : List Seat} {name : ByteArray} {j : Nat} (hj : j < L.length) (h : L[j].name ≠ name) : eDel (L.take (j + 1)) name = eDel (L.take j) name ++ [L[j]] := by
  unfold eDel
  rw [List.take_succ_eq_append_getElem hj, List.filter_append]
  have : List.filter (fun x => decide (key x ≠ name)) [L[j]] = [L[j]] := by
    rw [List.filter_eq_self]
    intro x hx
    obtain rfl := List.mem_singleton.1 hx
    exact decide_eq_true h
  rw [this]
theorem eDel_take_le (L : List Seat) (name : ByteArray) (j : Nat) : (eDel (L.take j) name).length ≤ j := Nat.le_trans (eDel_le _ _) (by rw [List.length_take]; omega)
theorem own_box {α : Type} [Lies α] {B B' : Nat} {w w' : World} {T T' : TypeId} {a : Option Addr} {c b : Nat} {l : List α} {cs : List Value} (h : Own B w T a c l) (hb : Box B' w b T' cs) (hT : T ≠ T') (k : Upd (· = b) w w') : Own B w' T a c l :=
  h.upd k (fun j hj e => h.box_apart hb hT (e ▸ hj))
def outG (G : Gs) (name : ByteArray) : Gs := { G with S := eDel G.S name }
theorem okG_out {G : Gs} (h : okG G) (name : ByteArray) : okG (outG G name) := ⟨eDel_sorted h.srt _, fun x hx => h.may x (eDel_mem.1 hx).1, Nat.le_trans (eDel_le _ _) h.len, h.num⟩
def exps (now : Int) (L : List Seat) : List Seat := L.filter fun x => !late now x.st
def exns (now : Int) (L : List Seat) : List ByteArray := (L.filter fun x => late now x.st).map Seat.name
theorem exps_late {L : List Seat} {now : Int} {j : Nat} (hj : j < L.length) (h : L[j].seen + L[j].timeout ≤ now) : exps now (L.take (j + 1)) = exps now (L.take j) ∧ exns now (L.take (j + 1)) = exns now (L.take j) ++ [L[j].name] := by
  have hl : late now L[j].st = true := by unfold late Seat.st; exact decide_eq_true h
  unfold exps exns
  rw [List.take_succ_eq_append_getElem hj, List.filter_append, List.filter_append]
  simp [hl]
theorem exps_not {L : List Seat} {now : Int} {j : Nat} (hj : j < L.length) (h : ¬ L[j].seen + L[j].timeout ≤ now) : exps now (L.take (j + 1)) = exps now (L.take j) ++ [L[j]] ∧ exns now (L.take (j + 1)) = exns now (L.take j) := by
  have hl : late now L[j].st = false := by unfold late Seat.st; exact decide_eq_false h
  unfold exps exns
  rw [List.take_succ_eq_append_getElem hj, List.filter_append, List.filter_append]
  simp [hl]
theorem exps_le (now : Int) (L : List Seat) (j : Nat) : (exps now (L.take j)).length ≤ j ∧ (exns now (L.take j)).length ≤ j := by
  unfold exps exns
  have h1 := List.length_filter_le (fun x : Seat => !late now x.st) (L.take j)
  have h2 := List.length_filter_le (fun x : Seat => late now x.st) (L.take j)
  rw [List.length_take] at h1 h2
  rw [List.length_map]
  omega
theorem exps_st {L : List Seat} {G : Gs} (h : L.map Seat.st = G.S) (now : Int) : (exps now L).map Seat.st = expS G.S now ∧ exns now L = expL G now := by
  unfold exps exns expS expL
  rw [← h, List.filter_map, List.filter_map, List.map_map]
  exact ⟨rfl, rfl⟩
theorem seat_bounds {L : List Seat} {G : Gs} (h : L.map Seat.st = G.S) (ok : okG G) {j : Nat} (hj : j < L.length) : 0 ≤ L[j].seen ∧ L[j].seen ≤ 1099511627776 ∧ 0 ≤ L[j].timeout ∧ L[j].timeout ≤ 1099511627776 := by
  obtain ⟨_, _, _, _, _, h6, h7⟩ := ok.may L[j].st (by rw [← h]; exact List.mem_map.2 ⟨_, List.getElem_mem hj, rfl⟩)
  exact ⟨h7.1, h7.2, h6.1, h6.2⟩
theorem rOut (w0 : World) (B i : Nat) (a : Option Addr) (G : Gs) (hT : Tr B w0 i a G) (name : ByteArray) :
    Ct Try.prog 61 #[.pointer (some ⟨i, 0, none⟩), .string name] w0 fun v w' => (v = .tuple #[] ∧ ∃ a2, Tr B w' i a2 (outG G name) ∧ ∀ k, inBlock a2 k → w0.heap.size ≤ k) ∧ Upd (· = i) w0 w' := by
  refine Ct.intro0 Try.func61 Try.ntmps61 rfl rfl (by decide) rfl ?_
  have H : Upd (· = i) w0 w0 := Upd.refl _ w0
  obtain ⟨c, H0, hbt, hO, hst, how⟩ := hT.at_
  have hbt0 := hbt
  have hok := hT.ok
  have hlH := st_len hst
  have hle8 := hok.len
  have hSc := own_le hO
  have hnum1 := hok.num.1
  have hnum2 := hok.num.2
  have hBw : B ≤ w0.heap.size := Nat.le_of_lt (Nat.lt_of_le_of_lt hT.lt.2 hT.lt.1)
  have hil := hbt.lt
  have hOlt : ∀ k, inBlock a k → k < w0.heap.size := fun k hk => (hO.blk hk).2
  refine WP.regionS ?_
  refine RL.build0 (α := Seat) w0.heap.size H.size rfl ?_
  intro w1 i6 hi6 hx hb6
  replace H := H.ext hx; replace hbt := hbt.ext hx; replace hO := hO.ext hx; clear hx
  refine RL.r (asgL rfl) rfl ?_
  refine RL.nil ?_
  refine WP.seq ?_
  refine WP.regionS ?_
  refine RL.r (asgI rfl) rfl ?_
  refine RL.nil ?_
  refine WP.block ?_
  refine WP.loop (fun k e' w' => ∃ j : Nat, ∃ (a4 : Option Addr) (c4 : Nat),  j + k = H0.length ∧ Head [4, 5, 7, 8, 9, 10, 11, 12, 13, 14, 15, 16, 17, 18, 19, 20, 21, 22, 23, 24, 25, 26, 27, 28, 29, 30, 31, 32, 33, 34, 35, 36] _ [(4, .slice a4 (eDel (H0.take j) name).length c4), (5, .int .i64 (j : Int))] e' ∧ Upd (· = i) w0 w' ∧ Box B w' i 42 [.int .i64 G.gen, .bool G.rb, .slice a H0.length c] ∧ Own w0.heap.size w' 31 a4 c4 (eDel (H0.take j) name) ∧ Own B w' 31 a c H0) (H0.length)
    ⟨0, _, _, by omega, Head.intro (AgreeOff.refl _ _) ⟨rfl, rfl, trivial⟩, H, hbt, hb6, hO⟩ ?_
  clear H hbt hO
  rintro k e w2 ⟨j, a4, c4, hjk, ⟨jk, rfl⟩, H, hbt, hL, hO⟩
  have hdl := eDel_take_le H0 name j
  refine WP.seq ?_
  refine WP.regionS ?_
  refine RL.r (mvI rfl) rfl ?_
  refine RL.r (mvP rfl) rfl ?_
  refine RL.r (nilck rfl) rfl ?_
  refine RL.r (fa_box rfl) rfl ?_
  refine RL.m (ld_box rfl hbt rfl) rfl ?_
  refine RL.r (len_sl rfl) rfl ?_
  refine RL.r (lss rfl rfl) rfl ?_
  refine RL.nil ?_
  refine WP.cond rfl (fun hc => ?_) (fun hc => ?_)
  · refine WP.skip ?_
    refine WP.seq ?_
    refine WP.block ?_
    refine WP.regionS ?_
    refine RL.r (mvP rfl) rfl ?_
    refine RL.r (nilck rfl) rfl ?_
    refine RL.r (fa_box rfl) rfl ?_
    refine RL.m (ld_box rfl hbt rfl) rfl ?_
    refine RL.r (mvI rfl) rfl ?_
    have hj : j < H0.length := by omega
    obtain ⟨q, hq⟩ := hO.sl.isAddr (by decide) hj
    subst hq
    refine RL.r (ix rfl rfl rfl hj) rfl ?_
    refine RL.r (fa_el hO.sl.1 rfl) rfl ?_
    refine RL.r (fa_el hO.sl.1 rfl) rfl ?_
    refine RL.m (ld_el rfl hO.sl (Ext.refl _) rfl hj rfl) rfl ?_
    refine RL.r (mvS rfl) rfl ?_
    refine RL.r (sneq rfl rfl) rfl ?_
    refine RL.nil ?_
    refine WP.cond rfl (fun hc => ?_) (fun hc => ?_)
    · refine WP.region ?_
      refine RL.r (mvL rfl) rfl ?_
      refine RL.r (mvP rfl) rfl ?_
      refine RL.r (nilck rfl) rfl ?_
      refine RL.r (fa_box rfl) rfl ?_
      refine RL.m (ld_box rfl hbt rfl) rfl ?_
      refine RL.r (mvI rfl) rfl ?_
      refine RL.r (ix rfl rfl rfl hj) rfl ?_
      refine RL.m (ldS_el rfl hO.sl (Ext.refl _) rfl rfl hj) rfl ?_
      refine RL.buildSlice w0.heap.size H.size rfl rfl rfl rfl rfl ?_
      intro w3 i35 hi35 hx hb35
      replace H := H.ext hx; replace hbt := hbt.ext hx; replace hL := hL.ext hx; replace hO := hO.ext hx; clear hx
      refine RL.appendS rfl hL H.size rfl (show Sl _ _ [H0[j]] from Box.sl1 hb35) rfl rfl (by decide) rfl cell1 (by omega) (by simp only [maxLen]; omega) rfl ?_
      intro w4 a36 c36 hu hb36 hfr36
      have hfr : ∀ k, inBlock (some q) k → ¬ inBlock a4 k := fun k hk hk2 => by have h1 := (hL.blk hk2).1; have h2 := hOlt k hk; omega
      replace hbt := hbt.upd hu (fun h => by have h1 := (hL.blk h).1; omega)
      replace hO := hO.upd hu hfr
      replace H := Upd.own H hL hu; clear hu
      refine RL.r (asgL rfl) rfl ?_
      refine RL.nil ?_
      refine WP.region ?_
      refine RL.r (mvI rfl) rfl ?_
      refine RL.r (add rfl rfl (by omega)) rfl ?_
      refine RL.r (asgI rfl) rfl ?_
      refine RL.nil ?_
      refine ⟨k - 1, by omega, j + 1, _, _, by omega, Head.intro (by repeat (first | with_reducible exact AgreeOff.mix _ _ _ | refine AgreeOff.look rfl ?_ | refine AgreeOff.mixs rfl ?_)) ⟨slE (by rw [eDel_stays hj hc]), rfl, trivial⟩, H, hbt, by rw [eDel_stays hj hc]; exact hb36, hO⟩
    · refine WP.skip ?_
      refine WP.region ?_
      refine RL.r (mvI rfl) rfl ?_
      refine RL.r (add rfl rfl (by omega)) rfl ?_
      refine RL.r (asgI rfl) rfl ?_
      refine RL.nil ?_
      refine ⟨k - 1, by omega, j + 1, _, _, by omega, Head.intro (by repeat (first | with_reducible exact AgreeOff.mix _ _ _ | refine AgreeOff.look rfl ?_ | refine AgreeOff.mixs rfl ?_)) ⟨slE (by rw [eDel_gone hj (Classical.not_not.1 hc)]), rfl, trivial⟩, H, hbt, by rw [eDel_gone hj (Classical.not_not.1 hc)]; exact hL, hO⟩
  · refine WP.exit ?_
    refine WP.region ?_
    refine RL.r (mvP rfl) rfl ?_
    refine RL.r (mvL rfl) rfl ?_
    refine RL.r (nilck rfl) rfl ?_
    refine RL.r (fa_box rfl) rfl ?_
    have hbt_0 := hbt
    refine RL.store1 rfl hbt rfl rfl rfl rfl ?_
    intro w5 hu hbt
    replace hL := own_box hL hbt_0 (by decide) hu
    replace hO := own_box hO hbt_0 (by decide) hu
    replace H := Upd.same H hu
    refine RL.nil ?_
    obtain rfl : j = H0.length := by omega
    have hown : Owns B _ H0 := how.bx hbt0 (by decide) H
    rw [List.take_length] at hL hbt
    exact fin0_end ⟨⟨rfl, a4, ⟨⟨c4, eDel H0 name, hbt, hL.mono hBw, (by rw [← eDel_map key_st, hst]; rfl), hown.sub fun x hx => (eDel_mem.1 hx).1⟩, okG_out hok name⟩, fun k hk => (hL.blk hk).1⟩, H⟩
theorem rLeave (w0 : World) (B i : Nat) (a : Option Addr) (G : Gs) (hT : Tr B w0 i a G) (name : ByteArray) (gen : Int) :
    Ct Try.prog 43 #[.pointer (some ⟨i, 0, none⟩), .string name, .int .i64 gen] w0 fun v w' => (v = .int .i64 (fenceE G name gen) ∧ ∃ a2, Tr B w' i a2 (leaveG G name gen)) ∧ Upd (· = i) w0 w' := by
  refine Ct.intro1 Try.func43 Try.ntmps43 rfl rfl (by decide) rfl ?_
  have H : Upd (· = i) w0 w0 := Upd.refl _ w0
  obtain ⟨c, H0, hbt, hO, hst, how⟩ := hT.at_
  have hbt0 := hbt
  have hok := hT.ok
  have hlH := st_len hst
  have hle8 := hok.len
  have hSc := own_le hO
  have hnum1 := hok.num.1
  have hnum2 := hok.num.2
  have hBw : B ≤ w0.heap.size := Nat.le_of_lt (Nat.lt_of_le_of_lt hT.lt.2 hT.lt.1)
  have hil := hbt.lt
  have hOlt : ∀ k, inBlock a k → k < w0.heap.size := fun k hk => (hO.blk hk).2
  refine WP.regionS ?_
  refine RL.r (asgI rfl) rfl ?_
  refine RL.nil ?_
  refine WP.regionS ?_
  refine RL.r (mvP rfl) rfl ?_
  refine RL.r (mvS rfl) rfl ?_
  refine RL.r (mvI rfl) rfl ?_
  -- call (*stagecoach/stagecoachref11.Group).Fence (tmp 8) (tmp 9) (tmp 10)
  refine RL.call (rFence _ B i a G hT name gen) rfl rfl ?_
  rintro _ w1 ⟨rfl, hx⟩
  replace H := H.ext hx; replace hbt := hbt.ext hx; replace hO := hO.ext hx
  refine RL.r (asgI rfl) rfl ?_
  refine RL.nil ?_
  refine WP.seq ?_
  refine WP.regionS ?_
  refine RL.r (mvI rfl) rfl ?_
  refine RL.r (eql rfl rfl) rfl ?_
  refine RL.nil ?_
  refine WP.cond rfl (fun hc => ?_) (fun hc => ?_)
  · refine WP.regionS ?_
    refine RL.r (mvP rfl) rfl ?_
    refine RL.r (mvS rfl) rfl ?_
    -- call (*stagecoach/stagecoachref11.Group).out (tmp 14) (tmp 15)
    refine RL.call (rOut _ B i a G ⟨⟨c, H0, hbt, hO, hst, how.bx hbt0 (by decide) H⟩, hok⟩ name) rfl rfl ?_
    rintro _ w2 ⟨⟨rfl, a2, hT2, hfr2⟩, hx⟩
    replace H := Upd.same H hx
    obtain ⟨c2, L2, hQ1, hQ2, hQ3, hQ4⟩ := hT2.at_
    have hbt : Box B _ i 42 [.int .i64 G.gen, .bool G.rb, .slice a2 L2.length c2] := hQ1
    refine RL.nil ?_
    refine WP.region ?_
    refine RL.r (mvP rfl) rfl ?_
    refine RL.r (mvP rfl) rfl ?_
    refine RL.r (nilck rfl) rfl ?_
    refine RL.r (fa_box rfl) rfl ?_
    refine RL.m (ld_box rfl hbt rfl) rfl ?_
    refine RL.r (add rfl rfl (by omega)) rfl ?_
    refine RL.r (min_i rfl rfl) rfl ?_
    refine RL.r (nilck rfl) rfl ?_
    refine RL.r (fa_box rfl) rfl ?_
    have hbt_0 := hbt
    refine RL.store1 rfl hbt rfl rfl rfl rfl ?_
    intro w3 hu hbt
    replace H := Upd.same H hu
    refine RL.nil ?_
    refine WP.regionS ?_
    refine RL.r (mvI rfl) rfl ?_
    refine RL.r (asgI rfl) rfl ?_
    refine RL.nil ?_
    refine WP.ret ?_
    refine fin1_ret rfl ⟨⟨rfl, a2, ?_⟩, H⟩
    have hokl := okG_leave hok name gen
    have hg : leaveG G name gen = ⟨nextN G.gen, G.rb, eDel G.S name⟩ := by unfold leaveG; rw [if_pos hc]
    rw [hg] at hokl ⊢
    exact ⟨⟨_, _, hbt, own_box (T' := 42) hQ2 hbt_0 (by decide) hu, hQ3, hQ4.upd hu (fun x hx k hk e => (hQ4 x hx).box_apart (T' := 42) hbt_0 (by decide) (e ▸ hk))⟩, hokl⟩
  · refine WP.skip ?_
    refine WP.regionS ?_
    refine RL.r (mvI rfl) rfl ?_
    refine RL.r (asgI rfl) rfl ?_
    refine RL.nil ?_
    refine WP.ret ?_
    refine fin1_ret rfl ⟨⟨rfl, a, by unfold leaveG; rw [if_neg hc]; exact ⟨⟨c, H0, hbt, hO, hst, how.bx hbt0 (by decide) H⟩, hok⟩⟩, H⟩
theorem rExpire (w0 : World) (B i : Nat) (a : Option Addr) (G : Gs) (hT : Tr B w0 i a G) (now : Int) :
    Ct Try.prog 44 #[.pointer (some ⟨i, 0, none⟩), .int .i64 now] w0 fun v w' => ((∃ a5 c5, v = .slice a5 (expL G now).length c5 ∧ Own w0.heap.size w' 9 a5 c5 (expL G now)) ∧ ∃ a2, Tr B w' i a2 (expG G now)) ∧ Upd (· = i) w0 w' := by
  refine Ct.intro1 Try.func44 Try.ntmps44 rfl rfl (by decide) rfl ?_
  have H : Upd (· = i) w0 w0 := Upd.refl _ w0
  obtain ⟨c, H0, hbt, hO, hst, how⟩ := hT.at_
  have hbt0 := hbt
  have hok := hT.ok
  have hlH := st_len hst
  have hle8 := hok.len
  have hSc := own_le hO
  have hnum1 := hok.num.1
  have hnum2 := hok.num.2
  have hBw : B ≤ w0.heap.size := Nat.le_of_lt (Nat.lt_of_le_of_lt hT.lt.2 hT.lt.1)
  have hil := hbt.lt
  have hOlt : ∀ k, inBlock a k → k < w0.heap.size := fun k hk => (hO.blk hk).2
  refine WP.regionS ?_
  refine RL.r (asgL rfl) rfl ?_
  refine RL.nil ?_
  refine WP.regionS ?_
  refine RL.build0 (α := ByteArray) w0.heap.size H.size rfl ?_
  intro w1 i8 hi8 hx hb8
  replace H := H.ext hx; replace hbt := hbt.ext hx; replace hO := hO.ext hx; clear hx
  refine RL.build0 (α := Seat) w0.heap.size H.size rfl ?_
  intro w2 i9 hi9 hx hb9
  replace H := H.ext hx; replace hbt := hbt.ext hx; replace hO := hO.ext hx; replace hb8 := hb8.ext hx; clear hx
  refine RL.r (asgL rfl) rfl ?_
  refine RL.r (asgL rfl) rfl ?_
  refine RL.nil ?_
  refine WP.seq ?_
  refine WP.regionS ?_
  refine RL.r (asgI rfl) rfl ?_
  refine RL.nil ?_
  refine WP.block ?_
  refine WP.loop (fun k e' w' => ∃ j : Nat, ∃ (a5 : Option Addr) (c5 : Nat) (a6 : Option Addr) (c6 : Nat),  j + k = H0.length ∧ Head [5, 6, 7, 10, 11, 12, 13, 14, 15, 16, 17, 18, 19, 20, 21, 22, 23, 24, 25, 26, 27, 28, 29, 30, 31, 32, 33, 34, 35, 36, 37, 38, 39, 40, 41, 42, 43, 44, 45, 46, 47, 48, 49, 50, 51, 52, 53, 54, 55, 56, 57, 58, 59] _ [(5, .slice a5 (exns now (H0.take j)).length c5), (6, .slice a6 (exps now (H0.take j)).length c6), (7, .int .i64 (j : Int))] e' ∧ Upd (· = i) w0 w' ∧ Box B w' i 42 [.int .i64 G.gen, .bool G.rb, .slice a H0.length c] ∧ Own w0.heap.size w' 9 a5 c5 (exns now (H0.take j)) ∧ Own w0.heap.size w' 31 a6 c6 (exps now (H0.take j)) ∧ Own B w' 31 a c H0) (H0.length)
    ⟨0, _, _, _, _, by omega, Head.intro (AgreeOff.refl _ _) ⟨rfl, rfl, rfl, trivial⟩, H, hbt, hb8, hb9, hO⟩ ?_
  clear H hbt hO hb8 hb9
  rintro k e w3 ⟨j, a5, c5, a6, c6, hjk, ⟨jk, rfl⟩, H, hbt, hE, hL, hO⟩
  obtain ⟨hdl1, hdl2⟩ := exps_le now H0 j
  refine WP.seq ?_
  refine WP.regionS ?_
  refine RL.r (mvI rfl) rfl ?_
  refine RL.r (mvP rfl) rfl ?_
  refine RL.r (nilck rfl) rfl ?_
  refine RL.r (fa_box rfl) rfl ?_
  refine RL.m (ld_box rfl hbt rfl) rfl ?_
  refine RL.r (len_sl rfl) rfl ?_
  refine RL.r (lss rfl rfl) rfl ?_
  refine RL.nil ?_
  refine WP.cond rfl (fun hc => ?_) (fun hc => ?_)
  · refine WP.skip ?_
    refine WP.seq ?_
    refine WP.block ?_
    refine WP.seq ?_
    refine WP.draw (by kernel_rfl) ?_
    refine QL.r (mvP rfl) rfl ?_
    refine QL.r (nilck rfl) rfl ?_
    refine QL.r (fa_box rfl) rfl ?_
    refine QL.m (ld_box rfl hbt rfl) rfl ?_
    refine QL.r (mvI rfl) rfl ?_
    have hj : j < H0.length := by omega
    obtain ⟨q, hq⟩ := hO.sl.isAddr (by decide) hj
    subst hq
    obtain ⟨hz1, hz2, hz3, hz4⟩ := seat_bounds hst hok hj
    refine QL.r (ix rfl rfl rfl hj) rfl ?_
    refine QL.r (fa_el hO.sl.1 rfl) rfl ?_
    refine QL.m (ld_el rfl hO.sl (Ext.refl _) rfl hj rfl) rfl ?_
    refine QL.r (mvP rfl) rfl ?_
    refine QL.r (nilck rfl) rfl ?_
    refine QL.r (fa_box rfl) rfl ?_
    refine QL.m (ld_box rfl hbt rfl) rfl ?_
    refine QL.r (mvI rfl) rfl ?_
    refine QL.r (ix rfl rfl rfl hj) rfl ?_
    refine QL.r (fa_el hO.sl.1 rfl) rfl ?_
    refine QL.m (ld_el rfl hO.sl (Ext.refl _) rfl hj rfl) rfl ?_
    refine QL.r (add rfl rfl (by omega)) rfl ?_
    refine QL.r (mvI rfl) rfl ?_
    refine QL.r (leq rfl rfl) rfl ?_
    refine QL.nil ?_; intro w4 hx; replace H := H.ext hx; replace hbt := hbt.ext hx; replace hE := hE.ext hx; replace hL := hL.ext hx; replace hO := hO.ext hx
    refine WP.cond rfl (fun hc => ?_) (fun hc => ?_)
    · refine WP.region ?_
      refine RL.r (mvL rfl) rfl ?_
      refine RL.r (mvP rfl) rfl ?_
      refine RL.r (nilck rfl) rfl ?_
      refine RL.r (fa_box rfl) rfl ?_
      refine RL.m (ld_box rfl hbt rfl) rfl ?_
      refine RL.r (mvI rfl) rfl ?_
      refine RL.r (ix rfl rfl rfl hj) rfl ?_
      refine RL.r (fa_el hO.sl.1 rfl) rfl ?_
      refine RL.r (fa_el hO.sl.1 rfl) rfl ?_
      refine RL.m (ld_el rfl hO.sl (Ext.refl _) rfl hj rfl) rfl ?_
      refine RL.buildSlice w0.heap.size H.size rfl rfl rfl rfl rfl ?_
      intro w5 i48 hi48 hx hb48
      replace H := H.ext hx; replace hbt := hbt.ext hx; replace hE := hE.ext hx; replace hL := hL.ext hx; replace hO := hO.ext hx; clear hx
      refine RL.appendS rfl hE H.size rfl (show Sl _ _ [H0[j].name] from Box.sl1 hb48) rfl rfl (by decide) rfl cell1 (by omega) (by simp only [maxLen]; omega) rfl ?_
      intro w6 a49 c49 hu hb49 hfr49
      replace hbt := hbt.upd hu (fun h => by have h1 := (hE.blk h).1; omega)
      replace hO := hO.upd hu (fun k hk h => hO.apart hE (by decide) hk h)
      replace hL := hL.upd hu (fun k hk h => hL.apart hE (by decide) hk h)
      replace H := Upd.own H hE hu; clear hu
      refine RL.r (asgL rfl) rfl ?_
      refine RL.nil ?_
      refine WP.region ?_
      refine RL.r (mvI rfl) rfl ?_
      refine RL.r (add rfl rfl (by omega)) rfl ?_
      refine RL.r (asgI rfl) rfl ?_
      refine RL.nil ?_
      obtain ⟨e1, e2⟩ := exps_late hj hc
      refine ⟨k - 1, by omega, j + 1, _, _, _, _, by omega, Head.intro (by repeat (first | with_reducible exact AgreeOff.mix _ _ _ | refine AgreeOff.look rfl ?_ | refine AgreeOff.mixs rfl ?_)) ⟨slE (by rw [e2]), slE (by rw [e1]), rfl, trivial⟩, H, hbt, (by rw [e2]; exact hb49), (by rw [e1]; exact hL), hO⟩
    · refine WP.region ?_
      refine RL.r (mvL rfl) rfl ?_
      refine RL.r (mvP rfl) rfl ?_
      refine RL.r (nilck rfl) rfl ?_
      refine RL.r (fa_box rfl) rfl ?_
      refine RL.m (ld_box rfl hbt rfl) rfl ?_
      refine RL.r (mvI rfl) rfl ?_
      refine RL.r (ix rfl rfl rfl hj) rfl ?_
      refine RL.m (ldS_el rfl hO.sl (Ext.refl _) rfl rfl hj) rfl ?_
      refine RL.buildSlice w0.heap.size H.size rfl rfl rfl rfl rfl ?_
      intro w7 i58 hi58 hx hb58
      replace H := H.ext hx; replace hbt := hbt.ext hx; replace hE := hE.ext hx; replace hL := hL.ext hx; replace hO := hO.ext hx; clear hx
      refine RL.appendS rfl hL H.size rfl (show Sl _ _ [H0[j]] from Box.sl1 hb58) rfl rfl (by decide) rfl cell1 (by omega) (by simp only [maxLen]; omega) rfl ?_
      intro w8 a59 c59 hu hb59 hfr59
      have hfr : ∀ k, inBlock (some q) k → ¬ inBlock a6 k := fun k hk hk2 => by have h1 := (hL.blk hk2).1; have h2 := hOlt k hk; omega
      replace hbt := hbt.upd hu (fun h => by have h1 := (hL.blk h).1; omega)
      replace hO := hO.upd hu hfr
      replace hE := hE.upd hu (fun k hk h => hE.apart hL (by decide) hk h)
      replace H := Upd.own H hL hu; clear hu
      refine RL.r (asgL rfl) rfl ?_
      refine RL.nil ?_
      refine WP.region ?_
      refine RL.r (mvI rfl) rfl ?_
      refine RL.r (add rfl rfl (by omega)) rfl ?_
      refine RL.r (asgI rfl) rfl ?_
      refine RL.nil ?_
      obtain ⟨e1, e2⟩ := exps_not hj hc
      refine ⟨k - 1, by omega, j + 1, _, _, _, _, by omega, Head.intro (by repeat (first | with_reducible exact AgreeOff.mix _ _ _ | refine AgreeOff.look rfl ?_ | refine AgreeOff.mixs rfl ?_)) ⟨slE (by rw [e2]), slE (by rw [e1]), rfl, trivial⟩, H, hbt, (by rw [e2]; exact hE), (by rw [e1]; exact hb59), hO⟩
  · refine WP.exit ?_
    refine WP.regionS ?_
    refine RL.r (mvP rfl) rfl ?_
    refine RL.r (mvL rfl) rfl ?_
    refine RL.r (nilck rfl) rfl ?_
    refine RL.r (fa_box rfl) rfl ?_
    have hbt_0 := hbt
    refine RL.store1 rfl hbt rfl rfl rfl rfl ?_
    intro w9 hu hbt
    replace hE := own_box hE hbt_0 (by decide) hu
    replace hL := own_box hL hbt_0 (by decide) hu
    replace hO := own_box hO hbt_0 (by decide) hu
    replace H := Upd.same H hu
    refine RL.nil ?_
    refine WP.seq ?_
    refine WP.regionS ?_
    refine RL.r (mvL rfl) rfl ?_
    refine RL.r (len_sl rfl) rfl ?_
    refine RL.r (gtr rfl rfl) rfl ?_
    refine RL.nil ?_
    refine WP.cond rfl (fun hc => ?_) (fun hc => ?_)
    · refine WP.region ?_
      refine RL.r (mvP rfl) rfl ?_
      refine RL.r (mvP rfl) rfl ?_
      refine RL.r (nilck rfl) rfl ?_
      refine RL.r (fa_box rfl) rfl ?_
      refine RL.m (ld_box rfl hbt rfl) rfl ?_
      refine RL.r (add rfl rfl (by omega)) rfl ?_
      refine RL.r (min_i rfl rfl) rfl ?_
      refine RL.r (nilck rfl) rfl ?_
      refine RL.r (fa_box rfl) rfl ?_
      have hbt_0 := hbt
      refine RL.store1 rfl hbt rfl rfl rfl rfl ?_
      intro w10 hu hbt
      replace hE := own_box hE hbt_0 (by decide) hu
      replace hL := own_box hL hbt_0 (by decide) hu
      replace hO := own_box hO hbt_0 (by decide) hu
      replace H := Upd.same H hu
      refine RL.nil ?_
      refine WP.regionS ?_
      refine RL.r (mvL rfl) rfl ?_
      refine RL.r (asgL rfl) rfl ?_
      refine RL.nil ?_
      refine WP.ret ?_
      obtain rfl : j = H0.length := by omega
      have hown : Owns B _ H0 := how.bx hbt0 (by decide) H
      obtain ⟨s1, s2⟩ := exps_st hst now
      rw [List.take_length] at hL hE hbt
      refine fin1_ret rfl ⟨⟨⟨a5, c5, slE (by rw [List.take_length, s2]), by rw [← s2]; exact hE⟩, a6, ?_⟩, H⟩
      have hokl := okG_exp hok now
      have hg : expG G now = ⟨nextN G.gen, G.rb, expS G.S now⟩ := by unfold expG; rw [← s2, if_pos (by rw [List.take_length] at hc; omega)]
      rw [hg] at hokl ⊢
      exact ⟨⟨c6, exps now H0, hbt, hL.mono hBw, s1, hown.sub fun x hx => (List.mem_filter.1 hx).1⟩, hokl⟩
    · refine WP.skip ?_
      refine WP.regionS ?_
      refine RL.r (mvL rfl) rfl ?_
      refine RL.r (asgL rfl) rfl ?_
      refine RL.nil ?_
      refine WP.ret ?_
      obtain rfl : j = H0.length := by omega
      have hown : Owns B _ H0 := how.bx hbt0 (by decide) H
      obtain ⟨s1, s2⟩ := exps_st hst now
      rw [List.take_length] at hL hE hbt
      refine fin1_ret rfl ⟨⟨⟨a5, c5, slE (by rw [List.take_length, s2]), by rw [← s2]; exact hE⟩, a6, ?_⟩, H⟩
      have hokl := okG_exp hok now
      have hg : expG G now = ⟨G.gen, G.rb, expS G.S now⟩ := by unfold expG; rw [← s2, if_neg (by rw [List.take_length] at hc; omega)]
      rw [hg] at hokl ⊢
      exact ⟨⟨c6, exps now H0, hbt, hL.mono hBw, s1, hown.sub fun x hx => (List.mem_filter.1 hx).1⟩, hokl⟩
theorem beat_set {H : List Seat} {S : List St} (hst : H.map Seat.st = S) (hs : S.Pairwise bfr) {j : Nat} (hj : j < H.length) {name : ByteArray} (hn : H[j].name = name) (now : Int) : (H.set j { H[j] with seen := max H[j].seen now }).map Seat.st = beatS S name now := by
  subst hst
  unfold beatS
  apply List.ext_getElem
  · simp
  · intro n h1 h2
    have hn2 : n < H.length := by simpa using h2
    simp only [List.getElem_map, List.getElem_set]
    unfold beat1
    by_cases e : j = n
    · subst e
      simp [Seat.st, hn]
    · rw [if_neg e, if_neg]
      intro h
      have h3 := srt_nodup hs
      rw [List.map_map] at h3
      have h4 : (H.map (key ∘ Seat.st))[j]? = (H.map (key ∘ Seat.st))[n]? := by
        simp only [List.getElem?_map, List.getElem?_eq_getElem hj, List.getElem?_eq_getElem hn2, Option.map_some, Option.some.injEq]
        exact hn.trans h.symm
      exact e ((List.getElem?_inj (by simpa using hj) h3).1 h4)
theorem owns_set {B : Nat} {w : World} {H : List Seat} (h : Owns B w H) {j : Nat} (hj : j < H.length) (n : Int) : Owns B w (H.set j { H[j] with seen := n }) := by
  intro x hx
  obtain ⟨k, hk, rfl⟩ := List.getElem_of_mem hx
  rw [List.getElem_set]
  rw [List.length_set] at hk
  split
  · exact h H[j] (List.getElem_mem hj)
  · exact h _ (List.getElem_mem hk)
theorem placeI_of {H : List Seat} {S : List St} (hst : H.map Seat.st = S) (hs : S.Pairwise bfr) {name : ByteArray} (h : eGet S name ≠ none) : ∃ (j : Nat) (hj : j < H.length), H[j].name = name ∧ placeI S name = (j : Int) := by
  obtain ⟨j, hj, hn⟩ := place_of h
  have hj2 : j < H.length := by rw [← hst, List.length_map] at hj; exact hj
  refine ⟨j, hj2, ?_, ?_⟩
  · rw [← st_nm hst hj2]; exact hn
  · rw [← hn]; exact placeI_at hs hj
/-- putting behind taking out -/
theorem put_del {S : List St} (hs : S.Pairwise bfr) (s : St) : ePut (eDel S s.name) s = ePut S s := by
  refine sorted_eq (ePut_sorted (eDel_sorted hs _) _) (ePut_sorted hs _) ?_
  rw [List.perm_ext_iff_of_nodup (srt_nd (ePut_sorted (eDel_sorted hs _) _)) (srt_nd (ePut_sorted hs _))]
  intro x
  rw [ePut_mem, ePut_mem, eDel_mem]
  constructor
  · rintro (h | ⟨⟨h1, _⟩, h2⟩)
    · exact .inl h
    · exact .inr ⟨h1, h2⟩
  · rintro (h | ⟨h1, h2⟩)
    · exact .inl h
    · exact .inr ⟨⟨h1, h2⟩, h2⟩
/-- where a seat is put -/
theorem put_at {L : List Seat} {S : List St} (hL : L.map Seat.st = S) (hs : S.Pairwise bfr) {s2 : Seat} (hno : eGet S s2.name = none) {j : Nat} (hj : j ≤ L.length) (hb : ∀ (n : Nat) (h : n < L.length), n < j → slt L[n].name s2.name) (he : ∀ h : j < L.length, ¬ slt L[j].name s2.name) : (L.take j ++ [s2] ++ L.drop j).map Seat.st = ePut S s2.st := by
  subst hL
  have hno2 : eGet L s2.name = none := (st_none rfl s2.name).2 hno
  obtain ⟨h1, _⟩ := ePut_split ((srt_map key_st L).1 hs) s2 hj hb he
  rw [if_neg (fun h => h hno2)] at h1
  rw [← h1, ePut_map key_st]
theorem eDel_get {S : List St} {name : ByteArray} : eGet (eDel S name) name = none := by
  rw [eGet_none]
  intro x hx
  exact (eDel_mem.1 hx).2
theorem Sl.take0 {α : Type} [Lies α] {w : World} {a : Option Addr} {l : List α} (h : Sl w a l) {j : Nat} (hj : j ≤ l.length) (hs : 0 < Lies.sz α) : Sl w a (l.take j) := by
  cases a with
  | none =>
    have := sl_none h hs
    subst this
    simpa using h
  | some p =>
    have h1 := h.take 0 j (by omega)
    rw [List.drop_zero, Nat.zero_mul] at h1
    rwa [show p.add 0 = p from rfl] at h1
def nmAt (L : List Seat) (j : Nat) : ByteArray := (L[j]?.getD zSeat).name
theorem nmAt_get {L : List Seat} {j : Nat} (h : j < L.length) : nmAt L j = L[j].name := by unfold nmAt; rw [List.getElem?_eq_getElem h]; rfl
theorem nmAt_le {L : List Seat} {G : Gs} (hm : L.map Seat.st = G.S) (h : okG G) (j : Nat) : (nmAt L j).size ≤ 9223372036854775806 := by
  unfold nmAt
  cases e : L[j]? with
  | none => exact (show ByteArray.empty.size ≤ 9223372036854775806 by decide)
  | some x =>
    have hx : x.st ∈ G.S := by rw [← hm]; exact List.mem_map_of_mem (List.mem_of_getElem? e)
    have := name_le (h.may _ hx).1
    show x.name.size ≤ _
    exact Nat.le_trans this (by decide)
theorem next_ok {L : List Seat} {nm : ByteArray} {j : Nat} (h : ∀ (n : Nat) (h : n < L.length), n < j → slt L[n].name nm) (h2 : slt (nmAt L j) nm) : ∀ (n : Nat) (h : n < L.length), n < j + 1 → slt L[n].name nm := by
  intro n hn hnj
  by_cases e : n < j
  · exact h n hn e
  · obtain rfl : n = j := by omega
    rwa [nmAt_get hn] at h2
theorem join2_b {G : Gs} {s : St} {rb : Bool} (h1 : ¬ ¬ mayS s) {n : Nat} (hn : n = G.S.length) (h2 : ¬ ((0 : Int) < (n : Int) ∧ G.rb ≠ rb)) (h3 : ((8 : Int) ≤ (n : Int) ∧ placeI G.S s.name < 0) ∨ G.gen = 1099511627776) : joinE G s rb = 2 := by
  unfold joinE
  rw [if_neg h1, if_neg (fun h => h2 ⟨by have := h.1; omega, h.2⟩), if_pos]
  rcases h3 with ⟨h3, h4⟩ | h3
  · exact .inl ⟨by omega, placeI_neg.1 h4⟩
  · exact .inr (by omega)
theorem join2_0 {G : Gs} {s : St} {rb : Bool} (hg : G.gen ≤ 1099511627776) (h1 : ¬ ¬ mayS s) {n : Nat} (hn : n = G.S.length) (h2 : ¬ ((0 : Int) < (n : Int) ∧ G.rb ≠ rb)) (h3 : ¬ (((8 : Int) ≤ (n : Int) ∧ placeI G.S s.name < 0) ∨ G.gen = 1099511627776)) : joinE G s rb = 0 := by
  unfold joinE
  rw [if_neg h1, if_neg (fun h => h2 ⟨by have := h.1; omega, h.2⟩), if_neg]
  rintro (⟨h5, h6⟩ | h5)
  · exact h3 (.inl ⟨by omega, placeI_neg.2 h6⟩)
  · exact h3 (.inr (by omega))
theorem rBeat (w0 : World) (B i : Nat) (a : Option Addr) (G : Gs) (hT : Tr B w0 i a G) (name : ByteArray) (gen now : Int) :
    Ct Try.prog 42 #[.pointer (some ⟨i, 0, none⟩), .string name, .int .i64 gen, .int .i64 now] w0 fun v w' => (v = .int .i64 (beatE G name gen now) ∧ Tr B w' i a (beatG G name gen now)) ∧ Upd (XR i a) w0 w' := by
  refine Ct.intro1 Try.func42 Try.ntmps42 rfl rfl (by decide) rfl ?_
  have H : Upd (XR i a) w0 w0 := Upd.refl _ w0
  obtain ⟨c, H0, hbt, hO, hst, how⟩ := hT.at_
  have hok := hT.ok
  have hlH := st_len hst
  have hle8 := hok.len
  have hSc := own_le hO
  have hnum1 := hok.num.1
  have hnum2 := hok.num.2
  have hBw : B ≤ w0.heap.size := Nat.le_of_lt (Nat.lt_of_le_of_lt hT.lt.2 hT.lt.1)
  have hil := hbt.lt
  have hOlt : ∀ k, inBlock a k → k < w0.heap.size := fun k hk => (hO.blk hk).2
  refine WP.regionS ?_
  refine RL.r (asgI rfl) rfl ?_
  refine RL.nil ?_
  refine WP.seq ?_
  refine WP.regionS ?_
  refine RL.r (mvI rfl) rfl ?_
  -- call stagecoach/stagecoachref03.Num (tmp 11)
  refine RL.call (rNum _ now) rfl rfl ?_
  rintro _ w1 ⟨rfl, hx⟩
  replace H := H.ext hx; replace hbt := hbt.ext hx; replace hO := hO.ext hx
  first | refine RL.r (notD rfl) rfl ?_ | refine RL.r (not_ rfl) rfl ?_
  refine RL.nil ?_
  refine WP.cond rfl (fun hc => ?_) (fun hc => ?_)
  · refine WP.regionS ?_
    refine RL.r (asgI rfl) rfl ?_
    refine RL.nil ?_
    refine WP.ret ?_
    have hE : beatE G name gen now = 1 := by unfold beatE; rw [if_pos hc]
    refine fin1_ret rfl ⟨⟨intE hE.symm, by unfold beatG; rw [if_neg (by omega)]; exact ⟨⟨c, H0, hbt, hO, hst, owns_xr how hT H⟩, hok⟩⟩, H⟩
  · refine WP.skip ?_
    refine WP.regionS ?_
    refine RL.r (mvP rfl) rfl ?_
    refine RL.r (mvS rfl) rfl ?_
    refine RL.r (mvI rfl) rfl ?_
    -- call (*stagecoach/stagecoachref11.Group).Fence (tmp 14) (tmp 15) (tmp 16)
    refine RL.call (rFence _ B i a G ⟨⟨c, H0, hbt, hO, hst, owns_xr how hT H⟩, hok⟩ name gen) rfl rfl ?_
    rintro _ w2 ⟨rfl, hx⟩
    replace H := H.ext hx; replace hbt := hbt.ext hx; replace hO := hO.ext hx
    refine RL.r (asgI rfl) rfl ?_
    refine RL.nil ?_
    refine WP.seq ?_
    refine WP.regionS ?_
    refine RL.r (mvI rfl) rfl ?_
    refine RL.r (eql rfl rfl) rfl ?_
    refine RL.nil ?_
    refine WP.cond rfl (fun hc => ?_) (fun hc => ?_)
    · refine WP.regionS ?_
      refine RL.r (mvP rfl) rfl ?_
      refine RL.r (mvS rfl) rfl ?_
      -- call (*stagecoach/stagecoachref11.Group).place (tmp 20) (tmp 21)
      have hE : beatE G name gen now = 0 := by unfold beatE; rw [if_neg (by assumption)]; exact hc
      obtain ⟨j, hj, hnj, hpj⟩ := placeI_of hst hok.srt (fence0 hc).1
      refine RL.call (rPlace _ B i a G ⟨⟨c, H0, hbt, hO, hst, owns_xr how hT H⟩, hok⟩ name) rfl rfl ?_
      rintro _ w3 ⟨rfl, hx⟩
      replace H := H.ext hx; replace hbt := hbt.ext hx; replace hO := hO.ext hx
      refine RL.r (asgI rfl) rfl ?_
      refine RL.nil ?_
      refine WP.any ?_
      intro w4 hx; replace H := H.ext hx; replace hbt := hbt.ext hx; replace hO := hO.ext hx
      refine AL.p 0 (by kernel_rfl) rfl (mvP rfl) rfl ?_
      refine AL.p 1 (by kernel_rfl) rfl (nilck rfl) rfl ?_
      refine AL.p 2 (by kernel_rfl) rfl (fa_box rfl) rfl ?_
      refine AL.p 4 (by kernel_rfl) rfl (mvI rfl) rfl ?_
      refine AL.p 5 (by kernel_rfl) rfl (mvP rfl) rfl ?_
      refine AL.p 6 (by kernel_rfl) rfl (nilck rfl) rfl ?_
      refine AL.p 7 (by kernel_rfl) rfl (fa_box rfl) rfl ?_
      refine AL.p 9 (by kernel_rfl) rfl (mvI rfl) rfl ?_
      refine AL.p 13 (by kernel_rfl) rfl (mvI rfl) rfl ?_
      refine AL.m 8 (by kernel_rfl) rfl (ld_box rfl hbt rfl) rfl ?_
      obtain ⟨q, hq⟩ := hO.sl.isAddr (by decide) hj
      subst hq
      refine AL.p 10 (by kernel_rfl) rfl (ix rfl rfl hpj hj) rfl ?_
      refine AL.p 11 (by kernel_rfl) rfl (fa_el hO.sl.1 rfl) rfl ?_
      refine AL.m 12 (by kernel_rfl) rfl (ld_el rfl hO.sl (Ext.refl _) rfl hj rfl) rfl ?_
      refine AL.p 14 (by kernel_rfl) rfl (max_i rfl rfl) rfl ?_
      refine AL.m 3 (by kernel_rfl) rfl (ld_box rfl hbt rfl) rfl ?_
      refine AL.p 15 (by kernel_rfl) rfl (ix rfl rfl hpj hj) rfl ?_
      refine AL.p 16 (by kernel_rfl) rfl (fa_el hO.sl.1 rfl) rfl ?_
      refine AL.o 17 (by kernel_rfl) rfl ?_
      refine RL.setOwn (u := ({ H0[j] with seen := max H0[j].seen now } : Seat)) (i := j) (off := 3) (v := .int .i64 (max H0[j].seen now)) (vs := [.int .i64 (max H0[j].seen now)]) rfl hO hj rfl rfl rfl (Nat.le_of_ble_eq_true rfl) rfl (fun v hv => by obtain rfl := List.mem_singleton.1 hv; rfl) ?_
      intro w99 hu hO2
      replace hbt := hbt.upd hu (hO.box_apart hbt (by decide))
      replace H := Upd.upd H hu (fun k hk he => Or.inr he)
      refine RL.nil ?_
      refine AL.nil (by kernel_rfl) ?_
      refine WP.regionS ?_
      refine RL.r (mvI rfl) rfl ?_
      refine RL.r (asgI rfl) rfl ?_
      refine RL.nil ?_
      refine WP.ret ?_
      have hown : Owns B _ H0 := owns_xr how hT H
      refine fin1_ret rfl ⟨⟨intE (by rw [hE]; exact hc), ?_⟩, H⟩
      have hokl := okG_beat hok name gen now
      have hg : beatG G name gen now = ⟨G.gen, G.rb, beatS G.S name now⟩ := by unfold beatG; rw [if_pos hE]
      rw [hg] at hokl ⊢
      refine ⟨⟨c, H0.set j { H0[j] with seen := max H0[j].seen now }, ?_, hO2, beat_set hst hok.srt hj hnj now, owns_set hown hj _⟩, hokl⟩
      rw [List.length_set]
      exact hbt
    · refine WP.skip ?_
      refine WP.regionS ?_
      refine RL.r (mvI rfl) rfl ?_
      refine RL.r (asgI rfl) rfl ?_
      refine RL.nil ?_
      refine WP.ret ?_
      have hE : beatE G name gen now = fenceE G name gen := by unfold beatE; rw [if_neg (by assumption)]
      refine fin1_ret rfl ⟨⟨intE hE.symm, by unfold beatG; rw [if_neg (by rw [hE]; exact hc)]; exact ⟨⟨c, H0, hbt, hO, hst, owns_xr how hT H⟩, hok⟩⟩, H⟩
theorem fa_o {P : Program} {e : Env} {x : Operand} {s : TypeId} {f off : Nat} {ft : TypeId} [hf : Fld P s f off ft] {α : Type} [Lies α] {w : World} {a : Option Addr} {l : List α} (hl : Sl w a l) (ha : a ≠ none) {k : Nat} (hx : ev e x = elp a k) : Pure P e (.fieldAddr s x f) (elp a (k + off)) := by
  cases a with
  | none => exact absurd rfl ha
  | some p => exact fa_el hl.1 hx
theorem ld_o {P : Program} {e : Env} {w : World} {t : TypeId} {x : Operand} {α : Type} [Lies α] {w0 : World} {a : Option Addr} {l : List α} {i off m : Nat} {v : Value} [hf : Flat P t] (hx : ev e x = elp a m) (hl : Sl w0 a l) (H : Ext w0 w) (hm : m = i * Lies.sz α + off) (hs : 0 < Lies.sz α) (hi : i < l.length) (hv : ∀ h : i < l.length, (Lies.enc l[i])[off]? = some v) : Does P e w (.load t x) v := by
  obtain ⟨p, rfl⟩ := hl.isAddr hs hi
  exact ld_el hx hl H hm hi (hv hi)
set_option maxRecDepth 20000 in
set_option maxHeartbeats 1600000 in
theorem rJoin (w0 : World) (B i : Nat) (a : Option Addr) (G : Gs) (hT : Tr B w0 i a G) (s : Seat) (robin : Bool) (hl : Sl w0 s.ta s.topics) (hlen : s.topics.length ≤ 100000) (hsz : ∀ x ∈ s.topics, x.size ≤ 40) (hns : s.name.size ≤ 40) (hsi : ∀ p, s.ta = some p → p.block ≠ i ∧ p.block < w0.heap.size) :
    Ct Try.prog 41 #[.pointer (some ⟨i, 0, none⟩), .agg (Lies.enc s).toArray, .bool robin] w0 fun v w' => (v = .tuple #[.int .i64 (joinV G s.st robin), .int .i64 (joinE G s.st robin)] ∧ ∃ a2, Tr B w' i a2 (joinG G s.st robin)) ∧ Upd (· = i) w0 w' := by
  refine Ct.intro2 Try.func41 Try.ntmps41 rfl rfl (by decide) rfl ?_
  have H : Upd (· = i) w0 w0 := Upd.refl _ w0
  obtain ⟨c, H0, hbt, hO, hst, how⟩ := hT.at_
  have hbt0 := hbt
  have hok := hT.ok
  have hlH := st_len hst
  have hle8 := hok.len
  have hSc := own_le hO
  have hnum1 := hok.num.1
  have hnum2 := hok.num.2
  have hBw : B ≤ w0.heap.size := Nat.le_of_lt (Nat.lt_of_le_of_lt hT.lt.2 hT.lt.1)
  have hil := hbt.lt
  have hOlt : ∀ k, inBlock a k → k < w0.heap.size := fun k hk => (hO.blk hk).2
  refine WP.regionS ?_
  refine RL.boxS w0.heap.size H.size rfl rfl ?_
  intro w1 i4 hi4 hx hb4
  have net_4 := hbt.ne hi4
  replace H := H.ext hx; replace hbt := hbt.ext hx; replace hO := hO.ext hx; replace hl := hl.ext hx; clear hx
  refine RL.r (asgI rfl) rfl ?_
  refine RL.r (asgI rfl) rfl ?_
  refine RL.nil ?_
  refine WP.seq ?_
  refine WP.regionS ?_
  refine RL.m (ldS_box rfl hb4 (Nat.le_of_ble_eq_true rfl) rfl) rfl ?_
  -- call stagecoach/stagecoachref11.May (tmp 10)
  refine RL.call (rMayS _ s hl hlen hsz) rfl rfl ?_
  rintro _ w2 ⟨rfl, hx⟩
  replace H := H.ext hx; replace hbt := hbt.ext hx; replace hb4 := hb4.ext hx; replace hO := hO.ext hx; replace hl := hl.ext hx
  first | refine RL.r (notD rfl) rfl ?_ | refine RL.r (not_ rfl) rfl ?_
  refine RL.nil ?_
  refine WP.cond rfl (fun hc => ?_) (fun hc => ?_)
  · refine WP.regionS ?_
    refine RL.r (asgI rfl) rfl ?_
    refine RL.r (asgI rfl) rfl ?_
    refine RL.nil ?_
    refine WP.ret ?_
    have hno := join_no (G := G) (s := s.st) (rb := robin) (joinE_1 hc) (by decide)
    refine fin2_ret rfl rfl ⟨⟨hno.1, a, by rw [hno.2]; exact ⟨⟨c, H0, hbt, hO, hst, how.bx hbt0 (by decide) H⟩, hok⟩⟩, H⟩
  · refine WP.skip ?_
    refine WP.seq ?_
    refine WP.seq (WP.quiet ?_)
    refine QL.r (mvP rfl) rfl ?_
    refine QL.r (nilck rfl) rfl ?_
    refine QL.r (fa_box rfl) rfl ?_
    refine QL.m (ld_box rfl hbt rfl) rfl ?_
    refine QL.r (len_sl rfl) rfl ?_
    refine QL.r (gtr rfl rfl) rfl ?_
    refine QL.r (mvB rfl) rfl ?_
    refine QL.gg (gwT rfl rfl) (fun hg => (mvP rfl).does _) rfl ?_
    refine QL.gg (gwT rfl rfl) (fun hg => (nilck (gs hg rfl)).does _) rfl ?_
    refine QL.gg (gwT rfl rfl) (fun hg => (fa_box (gs hg rfl)).does _) rfl ?_
    refine QL.gg (gwT rfl rfl) (fun hg => ld_box (gs hg rfl) hbt rfl) rfl ?_
    refine QL.gg (gwT rfl rfl) (fun hg => (mvB rfl).does _) rfl ?_
    refine QL.gg (gwT rfl rfl) (fun hg => (bneq (gs hg rfl) (gs hg rfl)).does _) rfl ?_
    refine QL.r (pickAnd rfl (fun hn => gs hn rfl)) rfl ?_
    refine QL.nil ?_; intro w3 hx; replace H := H.ext hx; replace hbt := hbt.ext hx; replace hb4 := hb4.ext hx; replace hO := hO.ext hx; replace hl := hl.ext hx
    refine WP.cond rfl (fun hc => ?_) (fun hc => ?_)
    · refine WP.regionS ?_
      refine RL.r (asgI rfl) rfl ?_
      refine RL.r (asgI rfl) rfl ?_
      refine RL.nil ?_
      refine WP.ret ?_
      have hno := join_no (G := G) (s := s.st) (rb := robin) (joinE_m (by assumption) hlH hc) (by decide)
      refine fin2_ret rfl rfl ⟨⟨hno.1, a, by rw [hno.2]; exact ⟨⟨c, H0, hbt, hO, hst, how.bx hbt0 (by decide) H⟩, hok⟩⟩, H⟩
    · refine WP.skip ?_
      refine WP.seq ?_
      refine WP.seq (WP.quiet ?_)
      refine QL.r (mvP rfl) rfl ?_
      refine QL.r (nilck rfl) rfl ?_
      refine QL.r (fa_box rfl) rfl ?_
      refine QL.m (ld_box rfl hbt rfl) rfl ?_
      refine QL.r (len_sl rfl) rfl ?_
      refine QL.r (geq rfl rfl) rfl ?_
      refine QL.r (mvB rfl) rfl ?_
      refine QL.gg (gwT rfl rfl) (fun hg => (mvP rfl).does _) rfl ?_
      refine QL.gg (gwT rfl rfl) (fun hg => (fa_box rfl).does _) rfl ?_
      refine QL.gg (gwT rfl rfl) (fun hg => (fa_box (gs hg rfl)).does _) rfl ?_
      refine QL.gg (gwT rfl rfl) (fun hg => ld_box (gs hg rfl) hb4 rfl) rfl ?_
      -- call (*stagecoach/stagecoachref11.Group).place (tmp 34) (tmp 37)
      refine QL.gcall (gwT rfl rfl) (fun hg w' hw' => rPlace w' B i a G ((show Tr B _ i a G from ⟨⟨c, H0, hbt, hO, hst, how.bx hbt0 (by decide) H⟩, hok⟩).ext hw') s.name) (fun hg => EvL.cons (gs hg rfl) (EvL.cons (gs hg rfl) (EvL.nil))) rfl ?_
      refine QL.gg (gwT rfl rfl) (fun hg => (lss (gs hg rfl) rfl).does _) rfl ?_
      refine QL.r (pickAnd rfl (fun hn => gs hn rfl)) rfl ?_
      refine QL.r (mvB rfl) rfl ?_
      refine QL.gg (gwF rfl rfl) (fun hg => (mvP rfl).does _) rfl ?_
      refine QL.gg (gwF rfl rfl) (fun hg => (nilck (gs hg rfl)).does _) rfl ?_
      refine QL.gg (gwF rfl rfl) (fun hg => (fa_box (gs hg rfl)).does _) rfl ?_
      refine QL.gg (gwF rfl rfl) (fun hg => ld_box (gs hg rfl) hbt rfl) rfl ?_
      refine QL.gg (gwF rfl rfl) (fun hg => (eql (gs hg rfl) rfl).does _) rfl ?_
      refine QL.r (pickOr rfl (fun hn => gs hn rfl)) rfl ?_
      refine QL.nil ?_; intro w5 hx; replace H := H.ext hx; replace hbt := hbt.ext hx; replace hb4 := hb4.ext hx; replace hO := hO.ext hx; replace hl := hl.ext hx
      refine WP.cond rfl (fun hc => ?_) (fun hc => ?_)
      · refine WP.regionS ?_
        refine RL.r (asgI rfl) rfl ?_
        refine RL.r (asgI rfl) rfl ?_
        refine RL.nil ?_
        refine WP.ret ?_
        have hno := join_no (G := G) (s := s.st) (rb := robin) (join2_b (by assumption) hlH (by assumption) hc) (by decide)
        refine fin2_ret rfl rfl ⟨⟨hno.1, a, by rw [hno.2]; exact ⟨⟨c, H0, hbt, hO, hst, how.bx hbt0 (by decide) H⟩, hok⟩⟩, H⟩
      · refine WP.skip ?_
        refine WP.regionS ?_
        refine RL.r (mvP rfl) rfl ?_
        refine RL.r (fa_box rfl) rfl ?_
        refine RL.r (fa_box rfl) rfl ?_
        refine RL.m (ld_box rfl hb4 rfl) rfl ?_
        -- call (*stagecoach/stagecoachref11.Group).out (tmp 48) (tmp 51)
        have hE : joinE G s.st robin = 0 := join2_0 hnum2 (by assumption) hlH (by assumption) hc
        have hmay : mayS s.st := Classical.not_not.1 (by assumption)
        refine RL.call (rOut _ B i a G ⟨⟨c, H0, hbt, hO, hst, how.bx hbt0 (by decide) H⟩, hok⟩ s.name) rfl rfl ?_
        rintro _ w6 ⟨⟨rfl, a2, hT2, hfr2⟩, hx⟩
        replace H := Upd.same H hx; replace hb4 := hb4.upd hx (box_nt hb4 hbt (by decide)); replace hl := hl.upd hx (fun p hp => (hsi p hp).1)
        obtain ⟨c2, L, hQ1, hL, hQ3, hQ4⟩ := hT2.at_
        have hbt : Box B _ i 42 [.int .i64 G.gen, .bool G.rb, .slice a2 L.length c2] := hQ1
        have hnmz := nmAt_le hQ3 (okG_out hok s.name)
        refine RL.nil ?_
        refine WP.regionS ?_
        refine RL.r (asgI rfl) rfl ?_
        refine RL.nil ?_
        refine WP.seq ?_
        refine WP.block ?_
        refine WP.loop (fun k e' w' => ∃ j : Nat,  j + k = L.length ∧ Head [8, 53, 54, 55, 56, 57, 58, 59, 60, 61, 62, 63, 64, 65, 66, 67, 68, 69, 70, 71, 72, 73, 74, 75, 76] _ [(8, .int .i64 (j : Int))] e' ∧ Upd (· = i) w0 w' ∧ Box B w' i 42 [.int .i64 G.gen, .bool G.rb, .slice a2 L.length c2] ∧ Box w0.heap.size w' i4 31 (Lies.enc s) ∧ Own B w' 31 a2 c2 L ∧ Owns B w' L ∧ Sl w' s.ta s.topics ∧ ∀ (n : Nat) (h : n < L.length), n < j → slt L[n].name s.name) (L.length)
          ⟨0, by omega, Head.intro (AgreeOff.refl _ _) ⟨rfl, trivial⟩, H, hbt, hb4, hL, hQ4, hl, fun n h hn => by omega⟩ ?_
        clear H hbt hb4 hl hL hQ4
        rintro k e w7 ⟨j, hjk, ⟨jk, rfl⟩, H, hbt, hb4, hL, hQ4, hl, hok3⟩
        have hL8 : L.length ≤ 8 := by rw [st_len hQ3]; exact (okG_out hok s.name).len
        refine WP.seq ?_
        refine WP.seq ?_
        refine WP.draw (by kernel_rfl) ?_
        refine QL.r (mvI rfl) rfl ?_
        refine QL.r (mvP rfl) rfl ?_
        refine QL.r (nilck rfl) rfl ?_
        refine QL.r (fa_box rfl) rfl ?_
        refine QL.m (ld_box rfl hbt rfl) rfl ?_
        refine QL.r (len_sl rfl) rfl ?_
        refine QL.r (lss rfl rfl) rfl ?_
        refine QL.r (mvB rfl) rfl ?_
        refine QL.gg (gwT rfl rfl) (fun hg => (mvP rfl).does _) rfl ?_
        refine QL.gg (gwT rfl rfl) (fun hg => (nilck (gs hg rfl)).does _) rfl ?_
        refine QL.gg (gwT rfl rfl) (fun hg => (fa_box (gs hg rfl)).does _) rfl ?_
        refine QL.gg (gwT rfl rfl) (fun hg => ld_box (gs hg rfl) hbt rfl) rfl ?_
        refine QL.gg (gwT rfl rfl) (fun hg => (mvI rfl).does _) rfl ?_
        refine QL.gg (gwT rfl rfl) (fun hg => (ix_o (gs hg rfl) (gs hg rfl) rfl (show j < L.length by omega) (hL.sl.someA (by decide) (i := j) (by omega))).does _) rfl ?_
        refine QL.gg (gwT rfl rfl) (fun hg => (fa_o hL.sl (hL.sl.someA (by decide) (i := j) (by omega)) (gs hg rfl)).does _) rfl ?_
        refine QL.gg (gwT rfl rfl) (fun hg => (fa_o hL.sl (hL.sl.someA (by decide) (i := j) (by omega)) (gs hg rfl)).does _) rfl ?_
        refine QL.gg (gwT rfl rfl) (fun hg => ld_o (v := .string (nmAt L j)) (gs hg rfl) hL.sl (Ext.refl _) rfl (by decide) (show j < L.length by omega) (fun h => by rw [nmAt_get h]; rfl)) rfl ?_
        refine QL.gg (gwT rfl rfl) (fun hg => (fa_box rfl).does _) rfl ?_
        refine QL.gg (gwT rfl rfl) (fun hg => (fa_box (gs hg rfl)).does _) rfl ?_
        refine QL.gg (gwT rfl rfl) (fun hg => ld_box (gs hg rfl) hb4 rfl) rfl ?_
        -- call stagecoach/stagecoachref04.Less (tmp 69) (tmp 72)
        refine QL.gcall (gwT rfl rfl) (fun hg w' hw' => rLess w' (nmAt L j) s.name (hnmz j)) (fun hg => EvL.cons (gs hg rfl) (EvL.cons (gs hg rfl) (EvL.nil))) rfl ?_
        refine QL.r (pickAnd rfl (fun hn => gs hn rfl)) rfl ?_
        refine QL.nil ?_; intro w9 hx; replace H := H.ext hx; replace hbt := hbt.ext hx; replace hb4 := hb4.ext hx; replace hL := hL.ext hx; replace hQ4 := hQ4.ext hx; replace hl := hl.ext hx
        refine WP.cond rfl (fun hc => ?_) (fun hc => ?_)
        · refine WP.skip ?_
          refine WP.block ?_
          refine WP.region ?_
          refine RL.r (mvI rfl) rfl ?_
          refine RL.r (add rfl rfl (by omega)) rfl ?_
          refine RL.r (asgI rfl) rfl ?_
          refine RL.nil ?_
          refine ⟨k - 1, by omega, j + 1, by omega, Head.intro (by repeat (first | with_reducible exact AgreeOff.mix _ _ _ | refine AgreeOff.look rfl ?_ | refine AgreeOff.mixs rfl ?_)) ⟨rfl, trivial⟩, H, hbt, hb4, hL, hQ4, hl, next_ok hok3 hc.2⟩
        · refine WP.exit ?_
          refine WP.regionS ?_
          have hLlt9 : ∀ k, inBlock a2 k → k < w9.heap.size := fun k hk => (hL.blk hk).2
          have hQlt9 : ∀ x ∈ L, ∀ k, inBlock x.ta k → k < w9.heap.size := fun x hx k hk => ((hQ4 x hx).blk hk).2
          have hilt9 : i < w9.heap.size := hbt.lt
          have hb4lt9 := hb4.lt
          have hs09 := H.size
          have hLc := own_le hL
          refine RL.build0 (α := Seat) w9.heap.size (Nat.le_refl _) rfl ?_
          intro w10 i77 hi77 hx hb77
          replace H := H.ext hx; replace hbt := hbt.ext hx; replace hb4 := hb4.ext hx; replace hL := hL.ext hx; replace hQ4 := hQ4.ext hx; replace hl := hl.ext hx; clear hx
          have hLA := hL
          have hQA := hQ4
          have hbtA := hbt
          have hb4A := hb4
          have HA := H
          have hlA := hl
          have hlt77 : i77 < w10.heap.size := (hb77.blk ⟨_, rfl, rfl⟩).2
          have H9 : Upd (fun k => w9.heap.size ≤ k) w10 w10 := Upd.refl _ _
          refine RL.r (mvP rfl) rfl ?_
          refine RL.r (nilck rfl) rfl ?_
          refine RL.r (fa_box rfl) rfl ?_
          refine RL.m (ld_box rfl hbt rfl) rfl ?_
          refine RL.r (mvI rfl) rfl ?_
          refine RL.r (slcT (n := j) rfl rfl rfl (by omega)) rfl ?_
          refine RL.appendS rfl hb77 (by omega) rfl (Sl.take0 (j := j) hL.sl (by omega) (by decide)) (by rw [List.length_take]; omega) rfl (by decide) rfl cell1 (by simp only [List.length_nil]; omega) (by simp only [maxLen, List.length_nil]; omega) rfl ?_
          intro w11 a84 c84 hu hb84 hfr84
          replace H9 := Upd.upd H9 hu (fun k hk he => (hb77.blk he).1)
          replace hbt := hbtA.upd H9 (fun h => Nat.lt_irrefl _ (Nat.lt_of_lt_of_le hilt9 h))
          replace hb4 := hb4A.upd H9 (fun h => Nat.lt_irrefl _ (Nat.lt_of_lt_of_le hb4lt9 h))
          replace hL := hLA.upd H9 (fun k hk h => Nat.lt_irrefl _ (Nat.lt_of_lt_of_le (hLlt9 k hk) h))
          replace hQ4 := hQA.upd H9 (fun x hx k hk h => Nat.lt_irrefl _ (Nat.lt_of_lt_of_le (hQlt9 x hx k hk) h))
          replace hl := hlA.upd H9 (fun p hp h => Nat.lt_irrefl _ (Nat.lt_of_lt_of_le (hsi p hp).2 (Nat.le_trans hs09 h)))
          replace H := Upd.upd HA H9 (fun k hk he => absurd (Nat.lt_of_lt_of_le hk hs09) (Nat.not_lt.2 he))
          have hn84 : (([] : List Seat) ++ L.take j).length ≤ 8 := by rw [List.nil_append, List.length_take]; omega
          refine RL.r (asgL rfl) rfl ?_
          refine RL.nil ?_
          refine WP.regionS ?_
          refine RL.r (mvL rfl) rfl ?_
          refine RL.m (ldS_box rfl hb4 (Nat.le_of_ble_eq_true rfl) rfl) rfl ?_
          -- call stagecoach/stagecoachref11.Seat (tmp 86)
          have hs11 := H.size
          refine RL.call (rSeat _ s hl hlen) rfl rfl ?_
          rintro v w12 ⟨⟨s2, rfl, hs2, hO2⟩, hx⟩
          replace H := H.ext hx; replace hbt := hbt.ext hx; replace hb4 := hb4.ext hx; replace hL := hL.ext hx; replace hQ4 := hQ4.ext hx; replace hl := hl.ext hx; replace H9 := H9.ext hx; replace hb84 := hb84.ext hx
          refine RL.buildSlice w0.heap.size H.size rfl rfl rfl rfl rfl ?_
          intro w13 i88 hi88 hx hb88
          replace H := H.ext hx; replace hbt := hbt.ext hx; replace hb4 := hb4.ext hx; replace hL := hL.ext hx; replace hQ4 := hQ4.ext hx; replace hl := hl.ext hx; replace H9 := H9.ext hx; replace hb84 := hb84.ext hx; replace hO2 := hO2.ext hx; clear hx
          refine RL.appendS rfl hb84 (by have := H9.size; omega) rfl (show Sl _ _ [s2] from Box.sl1 hb88) rfl rfl (by decide) rfl cell1 (by omega) (by simp only [maxLen]; omega) rfl ?_
          intro w14 a89 c89 hu hb89 hfr89
          replace hO2 := hO2.upd hu (fun y hy => hO2.apart hb84 (by decide) hy)
          replace H9 := Upd.upd H9 hu (fun k hk he => (hb84.blk he).1)
          replace hbt := hbtA.upd H9 (fun h => Nat.lt_irrefl _ (Nat.lt_of_lt_of_le hilt9 h))
          replace hb4 := hb4A.upd H9 (fun h => Nat.lt_irrefl _ (Nat.lt_of_lt_of_le hb4lt9 h))
          replace hL := hLA.upd H9 (fun k hk h => Nat.lt_irrefl _ (Nat.lt_of_lt_of_le (hLlt9 k hk) h))
          replace hQ4 := hQA.upd H9 (fun x hx k hk h => Nat.lt_irrefl _ (Nat.lt_of_lt_of_le (hQlt9 x hx k hk) h))
          replace hl := hlA.upd H9 (fun p hp h => Nat.lt_irrefl _ (Nat.lt_of_lt_of_le (hsi p hp).2 (Nat.le_trans hs09 h)))
          replace H := Upd.upd HA H9 (fun k hk he => absurd (Nat.lt_of_lt_of_le hk hs09) (Nat.not_lt.2 he))
          have hn89 : ([] ++ L.take j ++ [s2]).length ≤ 9 := by rw [List.length_append]; simp only [List.length_cons, List.length_nil]; omega
          refine RL.r (asgL rfl) rfl ?_
          refine RL.nil ?_
          refine WP.regionS ?_
          refine RL.r (mvL rfl) rfl ?_
          refine RL.r (mvP rfl) rfl ?_
          refine RL.r (nilck rfl) rfl ?_
          refine RL.r (fa_box rfl) rfl ?_
          refine RL.m (ld_box rfl hbt rfl) rfl ?_
          refine RL.r (mvI rfl) rfl ?_
          refine RL.r (slcD (n := j) rfl rfl rfl (by omega)) rfl ?_
          refine RL.appendS rfl hb89 (by have := H9.size; omega) rfl (Sl.suf hL.sl rfl (by omega) (by omega) (by decide)) (List.length_drop ..) rfl (by decide) rfl cell1 (by omega) (by simp only [maxLen]; omega) rfl ?_
          intro w15 a97 c97 hu hb97 hfr97
          replace hO2 := hO2.upd hu (fun y hy => hO2.apart hb89 (by decide) hy)
          replace H9 := Upd.upd H9 hu (fun k hk he => (hb89.blk he).1)
          replace hbt := hbtA.upd H9 (fun h => Nat.lt_irrefl _ (Nat.lt_of_lt_of_le hilt9 h))
          replace hb4 := hb4A.upd H9 (fun h => Nat.lt_irrefl _ (Nat.lt_of_lt_of_le hb4lt9 h))
          replace hL := hLA.upd H9 (fun k hk h => Nat.lt_irrefl _ (Nat.lt_of_lt_of_le (hLlt9 k hk) h))
          replace hQ4 := hQA.upd H9 (fun x hx k hk h => Nat.lt_irrefl _ (Nat.lt_of_lt_of_le (hQlt9 x hx k hk) h))
          replace hl := hlA.upd H9 (fun p hp h => Nat.lt_irrefl _ (Nat.lt_of_lt_of_le (hsi p hp).2 (Nat.le_trans hs09 h)))
          replace H := Upd.upd HA H9 (fun k hk he => absurd (Nat.lt_of_lt_of_le hk hs09) (Nat.not_lt.2 he))
          refine RL.r (asgL rfl) rfl ?_
          refine RL.nil ?_
          refine WP.regionS ?_
          refine RL.r (mvP rfl) rfl ?_
          refine RL.r (mvL rfl) rfl ?_
          refine RL.r (nilck rfl) rfl ?_
          refine RL.r (fa_box rfl) rfl ?_
          have hbt_0 := hbt
          refine RL.store1 rfl hbt rfl rfl rfl rfl ?_
          intro w16 hu hbt
          replace hQ4 := hQ4.bx hbt_0 (by decide) hu
          replace hO2 := own_box hO2 hbt_0 (by decide) hu
          replace hb97 := own_box hb97 hbt_0 (by decide) hu
          replace H := Upd.same H hu; replace hb4 := hb4.upd hu (Ne.symm net_4)
          refine RL.nil ?_
          refine WP.regionS ?_
          refine RL.r (mvP rfl) rfl ?_
          refine RL.r (mvB rfl) rfl ?_
          refine RL.r (nilck rfl) rfl ?_
          refine RL.r (fa_box rfl) rfl ?_
          have hbt_0 := hbt
          refine RL.store1 rfl hbt rfl rfl rfl rfl ?_
          intro w17 hu hbt
          replace hQ4 := hQ4.bx hbt_0 (by decide) hu
          replace hO2 := own_box hO2 hbt_0 (by decide) hu
          replace hb97 := own_box hb97 hbt_0 (by decide) hu
          replace H := Upd.same H hu; replace hb4 := hb4.upd hu (Ne.symm net_4)
          refine RL.nil ?_
          refine WP.regionS ?_
          refine RL.r (mvP rfl) rfl ?_
          refine RL.r (mvP rfl) rfl ?_
          refine RL.r (nilck rfl) rfl ?_
          refine RL.r (fa_box rfl) rfl ?_
          refine RL.m (ld_box rfl hbt rfl) rfl ?_
          refine RL.r (add rfl rfl (by omega)) rfl ?_
          refine RL.r (nilck rfl) rfl ?_
          refine RL.r (fa_box rfl) rfl ?_
          have hbt_0 := hbt
          refine RL.store1 rfl hbt rfl rfl rfl rfl ?_
          intro w18 hu hbt
          replace hQ4 := hQ4.bx hbt_0 (by decide) hu
          replace hO2 := own_box hO2 hbt_0 (by decide) hu
          replace hb97 := own_box hb97 hbt_0 (by decide) hu
          replace H := Upd.same H hu; replace hb4 := hb4.upd hu (Ne.symm net_4)
          refine RL.nil ?_
          refine WP.regionS ?_
          refine RL.r (mvP rfl) rfl ?_
          refine RL.r (nilck rfl) rfl ?_
          refine RL.r (fa_box rfl) rfl ?_
          refine RL.m (ld_box rfl hbt rfl) rfl ?_
          refine RL.r (asgI rfl) rfl ?_
          refine RL.r (asgI rfl) rfl ?_
          refine RL.nil ?_
          refine WP.ret ?_
          have hjG := joinG_ok hE
          have hokj := okG_join hok s.st robin
          rw [hjG] at hokj ⊢
          have hn2 : s2.name = s.name := congrArg St.name hs2
          have hpa : (L.take j ++ [s2] ++ L.drop j).map Seat.st = ePut G.S s.st := by
            have h1 := put_at (S := eDel G.S s.name) hQ3 (eDel_sorted hok.srt _) (s2 := s2) (by rw [hn2]; exact eDel_get) (j := j) (by omega) (by rw [hn2]; exact hok3) (by rw [hn2]; intro h hlt; exact hc ⟨by omega, by rw [nmAt_get h]; exact hlt⟩)
            rw [h1, hs2]
            exact put_del hok.srt s.st
          refine fin2_ret rfl rfl ⟨⟨by rw [joinV_ok hE, hE]; rfl, a97, ⟨⟨c97, _, hbt, (hb97.mono (Nat.le_trans hBw hs09)), by rw [List.nil_append]; exact hpa, ?_⟩, hokj⟩⟩, H⟩
          intro x hx
          rcases List.mem_append.1 hx with hx | hx
          · rcases List.mem_append.1 hx with hx | hx
            · exact hQ4 x (List.mem_of_mem_take (by simpa using hx))
            · rw [List.mem_singleton.1 hx]; exact hO2.mono (by omega)
          · exact hQ4 x (List.mem_of_mem_drop hx)
theorem Gr.ext {w w' : World} {a : Option Addr} {g : List (Rw Part)} (h : Gr w a g) (k : Ext w w') : Gr w' a g := ⟨h.1.ext k, fun r hr => (h.2 r hr).ext k⟩
theorem rows_r (g : List (Rw Part)) {r : List (List Part)} (h : rows g = r) {i : Nat} (hi : i < g.length) : r[i]? = some g[i].l := by
  subst h
  rw [List.getElem?_map, List.getElem?_eq_getElem hi]
  rfl
/-- two lists of seats -/
theorem same_iff {L1 L2 : List Seat} (hl : L1.length = L2.length) (h : ∀ (i : Nat) (h1 : i < L1.length) (h2 : i < L2.length), L1[i].st = L2[i].st) : L1.map Seat.st = L2.map Seat.st := by
  refine List.ext_getElem (by simpa using hl) fun i h1 h2 => ?_
  rw [List.length_map] at h1 h2
  rw [List.getElem_map, List.getElem_map]
  exact h i h1 h2
theorem same_at {L1 L2 : List Seat} (h : L1.map Seat.st = L2.map Seat.st) {i : Nat} (h1 : i < L1.length) (h2 : i < L2.length) : L1[i].st = L2[i].st := by
  have := congrArg (fun l => l[i]?) h
  simp only [List.getElem?_map, List.getElem?_eq_getElem h1, List.getElem?_eq_getElem h2, Option.map_some] at this
  exact Option.some.inj this
set_option maxRecDepth 20000 in
set_option maxHeartbeats 800000 in
theorem rLoadG (w0 : World) (gen : Int) (robin : Bool) (a : Option Addr) (c0 : Nat) (l : List Seat) (hl : Sl w0 a l) (hts : ∀ x ∈ l, Sl w0 x.ta x.topics ∧ x.topics.length ≤ 100000 ∧ (∀ t ∈ x.topics, t.size ≤ 40) ∧ x.name.size ≤ 40) :
    Ct Try.prog 24 #[.int .i64 gen, .bool robin, .slice a l.length c0] w0 fun v w' => ((loadE gen l = 0 ∧ ∃ i a, v = .tuple #[.pointer (some ⟨i, 0, none⟩), .int .i64 0] ∧ Tr w0.heap.size w' i a ⟨gen, robin, l.map Seat.st⟩) ∨ (loadE gen l ≠ 0 ∧ v = .tuple #[.pointer none, .int .i64 (loadE gen l)])) ∧ Ext w0 w' := by
  refine Ct.intro2 Try.func24 Try.ntmps24 rfl rfl (by decide) rfl ?_
  have H : Ext w0 w0 := Ext.refl w0
  refine WP.regionS ?_
  refine RL.r (asgP rfl) rfl ?_
  refine RL.r (asgI rfl) rfl ?_
  refine RL.nil ?_
  refine WP.seq ?_
  refine WP.regionS ?_
  refine RL.r (mvL rfl) rfl ?_
  refine RL.r (len_sl rfl) rfl ?_
  refine RL.r (gtr rfl rfl) rfl ?_
  refine RL.nil ?_
  refine WP.cond rfl (fun hc => ?_) (fun hc => ?_)
  · refine WP.regionS ?_
    refine RL.r (asgP rfl) rfl ?_
    refine RL.r (asgI rfl) rfl ?_
    refine RL.nil ?_
    refine WP.ret ?_
    have hE : loadE gen l = 2 := by unfold loadE; rw [if_pos (by omega)]
    refine fin2_ret rfl rfl ⟨.inr ⟨by rw [hE]; decide, tupP hE.symm⟩, H⟩
  · refine WP.skip ?_
    refine WP.seq ?_
    refine WP.regionS ?_
    refine RL.r (mvI rfl) rfl ?_
    -- call stagecoach/stagecoachref03.Num (tmp 13)
    refine RL.call (rNum _ gen) rfl rfl ?_
    rintro _ w1 ⟨rfl, hx⟩
    replace H := H.ext hx
    first | refine RL.r (notD rfl) rfl ?_ | refine RL.r (not_ rfl) rfl ?_
    refine RL.nil ?_
    refine WP.cond rfl (fun hc => ?_) (fun hc => ?_)
    · refine WP.regionS ?_
      refine RL.r (asgP rfl) rfl ?_
      refine RL.r (asgI rfl) rfl ?_
      refine RL.nil ?_
      refine WP.ret ?_
      have hE : loadE gen l = 1 := by unfold loadE; rw [if_neg (by omega), if_pos hc]
      refine fin2_ret rfl rfl ⟨.inr ⟨by rw [hE]; decide, tupP hE.symm⟩, H⟩
    · refine WP.skip ?_
      refine WP.regionS ?_
      refine RL.r (mvI rfl) rfl ?_
      refine RL.r (mvB rfl) rfl ?_
      refine RL.r (bld rfl rfl) rfl ?_
      refine RL.boxS w0.heap.size H.size rfl rfl ?_
      intro w2 i19 hi19 hx hb19
      replace H := H.ext hx; clear hx
      refine RL.r (asgP rfl) rfl ?_
      refine RL.nil ?_
      refine WP.seq ?_
      refine WP.regionS ?_
      refine RL.r (asgI rfl) rfl ?_
      refine RL.nil ?_
      refine WP.block ?_
      have hgen : numB gen := Classical.not_not.1 (by assumption)
      have hl8 : l.length ≤ 8 := by omega
      refine WP.loop (fun k e' w' => ∃ j : Nat, ∃ x : Option Addr × Nat × List Seat,  j + k = l.length ∧ Head [6, 7, 9, 20, 21, 22, 23, 24, 25, 26, 27, 28, 29, 30, 31, 32, 33, 34, 35, 36, 37, 38, 39, 40, 41, 42, 43, 44, 45, 46, 47, 48, 49, 50, 51, 52, 53, 54, 55, 56, 57, 58, 59, 60, 61, 62, 63, 64, 65, 66] _ [(9, .int .i64 (j : Int))] e' ∧ Ext w0 w' ∧ Box w0.heap.size w' i19 42 [.int .i64 gen, .bool robin, .slice x.1 x.2.2.length x.2.1] ∧ Own w0.heap.size w' 31 x.1 x.2.1 x.2.2 ∧ Owns w0.heap.size w' x.2.2 ∧ x.2.2.map Seat.st = (l.take j).map Seat.st ∧ ∀ (i : Nat) (h : i < l.length), i < j → mayS l[i].st ∧ (0 < i → slt l[i - 1].name l[i].name)) (l.length)
        ⟨0, (none, 0, []), by omega, Head.intro (AgreeOff.refl _ _) ⟨rfl, trivial⟩, H, hb19, Own.nil _ _ _, Owns.nil _ _, rfl, fun i h hi => by omega⟩ ?_
      clear H hb19
      rintro k e w3 ⟨j, x, hjk, ⟨jk, rfl⟩, H, hb19, hL, hLo, hst, hok⟩
      have hx8 : x.2.2.length ≤ 8 := by have := congrArg List.length hst; simp only [List.length_map, List.length_take] at this; omega
      refine WP.seq ?_
      refine WP.regionS ?_
      refine RL.r (mvI rfl) rfl ?_
      refine RL.r (mvL rfl) rfl ?_
      refine RL.r (len_sl rfl) rfl ?_
      refine RL.r (lss rfl rfl) rfl ?_
      refine RL.nil ?_
      refine WP.cond rfl (fun hc => ?_) (fun hc => ?_)
      · refine WP.skip ?_
        refine WP.seq ?_
        refine WP.block ?_
        refine WP.seq ?_
        refine WP.seq ?_
        refine WP.draw (by kernel_rfl) ?_
        refine QL.r (mvL rfl) rfl ?_
        refine QL.r (mvI rfl) rfl ?_
        have hj : j < l.length := by omega
        have hj1 : j - 1 < l.length := by omega
        obtain ⟨q, hq⟩ := hl.isAddr (by decide) hj
        subst hq
        obtain ⟨htp, htl, hts4, hnm4⟩ := hts l[j] (List.getElem_mem hj)
        obtain ⟨_, _, _, hnm41⟩ := hts (l[j - 1]'hj1) (List.getElem_mem hj1)
        refine QL.r (ix rfl rfl rfl hj) rfl ?_
        refine QL.m (ldS_el rfl hl H rfl rfl hj) rfl ?_
        -- call stagecoach/stagecoachref11.May (tmp 29)
        have hC3 : ∀ w', Ct Try.prog 50 #[.string (l[j - 1]'hj1).name, .string l[j].name] w' fun u w'' => u = .bool (decide (slt (l[j - 1]'hj1).name l[j].name)) ∧ Ext w' w'' := fun w' => rLess w' (l[j - 1]'hj1).name l[j].name (Nat.le_trans hnm41 (by decide))
        have hC : ∀ w', Ext _ w' → Ct Try.prog 49 #[.agg (Lies.enc l[j]).toArray] w' fun u w'' => u = .bool (decide (mayS l[j].st)) ∧ Ext w' w'' := fun w' hw' => rMayS w' l[j] (htp.ext (H.ext hw')) htl hts4
        refine QL.call (fun w' hw' => hC w' hw') rfl rfl ?_
        first | refine QL.r (notD rfl) rfl ?_ | refine QL.r (not_ rfl) rfl ?_
        refine QL.r (mvB rfl) rfl ?_
        refine QL.gg (gwF rfl rfl) (fun hg => (mvI rfl).does _) rfl ?_
        refine QL.gg (gwF rfl rfl) (fun hg => (gtr (gs hg rfl) rfl).does _) rfl ?_
        refine QL.gg (gwF rfl rfl) (fun hg => (mvv (gs hg rfl)).does _) rfl ?_
        refine QL.gg (gwTT rfl rfl) (fun hg => (mvL rfl).does _) rfl ?_
        refine QL.gg (gwTT rfl rfl) (fun hg => (mvI rfl).does _) rfl ?_
        refine QL.gg (gwTT rfl rfl) (fun hg => (sub (gs hg rfl) rfl (by omega)).does _) rfl ?_
        refine QL.gg (gwTT rfl rfl) (fun hg => (ix (gs hg rfl) (gs hg rfl) (show ((j : Int) - 1) = ((j - 1 : Nat) : Int) by have := hg.2; omega) hj1).does _) rfl ?_
        refine QL.gg (gwTT rfl rfl) (fun hg => (fa_el hl.1 (gs hg rfl)).does _) rfl ?_
        refine QL.gg (gwTT rfl rfl) (fun hg => (fa_el hl.1 (gs hg rfl)).does _) rfl ?_
        refine QL.gg (gwTT rfl rfl) (fun hg => ld_el (gs hg rfl) hl H rfl hj1 rfl) rfl ?_
        refine QL.gg (gwTT rfl rfl) (fun hg => (mvL rfl).does _) rfl ?_
        refine QL.gg (gwTT rfl rfl) (fun hg => (mvI rfl).does _) rfl ?_
        refine QL.gg (gwTT rfl rfl) (fun hg => (ix (gs hg rfl) (gs hg rfl) rfl hj).does _) rfl ?_
        refine QL.gg (gwTT rfl rfl) (fun hg => (fa_el hl.1 (gs hg rfl)).does _) rfl ?_
        refine QL.gg (gwTT rfl rfl) (fun hg => (fa_el hl.1 (gs hg rfl)).does _) rfl ?_
        refine QL.gg (gwTT rfl rfl) (fun hg => ld_el (gs hg rfl) hl H rfl hj rfl) rfl ?_
        -- call stagecoach/stagecoachref04.Less (tmp 42) (tmp 48)
        refine QL.gcall (gwTT rfl rfl) (fun hg w' hw' => hC3 w') (fun hg => EvL.cons (gs hg rfl) (EvL.cons (gs hg rfl) (EvL.nil))) rfl ?_
        first | refine QL.gg (gwTT rfl rfl) (fun hg => (notD (gs hg rfl)).does _) rfl ?_ | refine QL.gg (gwTT rfl rfl) (fun hg => (not_ (gs hg rfl)).does _) rfl ?_
        refine QL.gg (gwF rfl rfl) (fun hg => (pickAnd (gs hg rfl) (fun hn => gs ⟨hg, hn⟩ rfl)).does _) rfl ?_
        refine QL.r (pickOr rfl (fun hn => gs hn rfl)) rfl ?_
        refine QL.nil ?_; intro w6 hx; replace H := H.ext hx; replace hb19 := hb19.ext hx; replace hL := hL.ext hx; replace hLo := hLo.ext hx
        refine WP.cond rfl (fun hc => ?_) (fun hc => ?_)
        · refine WP.regionS ?_
          refine RL.r (asgP rfl) rfl ?_
          refine RL.r (asgI rfl) rfl ?_
          refine RL.nil ?_
          refine WP.ret ?_
          have hE : loadE gen l = 1 := by
            unfold loadE
            rw [if_neg (by omega), if_neg (by assumption), if_neg]
            intro h
            obtain ⟨h1, h2⟩ := h j hj
            rcases hc with hc | ⟨hc, hc'⟩
            · exact hc h1
            · exact hc' (h2 (by omega))
          refine fin2_ret rfl rfl ⟨.inr ⟨by rw [hE]; decide, tupP hE.symm⟩, H⟩
        · refine WP.skip ?_
          refine WP.cutN (α := Option Addr × Nat × List Seat) [53, 54, 55, 56, 57, 58, 59, 60, 61, 62, 63, 64, 65, 66] (fun x => []) (fun x w' => Ext w0 w' ∧ Box w0.heap.size w' i19 42 [.int .i64 gen, .bool robin, .slice x.1 x.2.2.length x.2.1] ∧ Own w0.heap.size w' 31 x.1 x.2.1 x.2.2 ∧ Owns w0.heap.size w' x.2.2 ∧ x.2.2.map Seat.st = (l.take (j + 1)).map Seat.st) ?_ ?_
          · refine WP.any ?_
            intro w7 hx; replace H := H.ext hx; replace hb19 := hb19.ext hx; replace hL := hL.ext hx; replace hLo := hLo.ext hx
            refine AL.p 0 (by kernel_rfl) rfl (mvP rfl) rfl ?_
            refine AL.p 1 (by kernel_rfl) rfl (mvP rfl) rfl ?_
            refine AL.p 2 (by kernel_rfl) rfl (nilck rfl) rfl ?_
            refine AL.p 3 (by kernel_rfl) rfl (fa_box rfl) rfl ?_
            refine AL.p 5 (by kernel_rfl) rfl (mvL rfl) rfl ?_
            refine AL.p 6 (by kernel_rfl) rfl (mvI rfl) rfl ?_
            refine AL.p 7 (by kernel_rfl) rfl (ix rfl rfl rfl hj) rfl ?_
            refine AL.m 8 (by kernel_rfl) rfl (ldS_el rfl hl H rfl rfl hj) rfl ?_
            refine AL.all (rs := [4, 9]) (by kernel_rfl) rfl ?_
            rintro i hi; simp only [List.mem_cons, List.not_mem_nil, or_false] at hi; rcases hi with rfl | rfl
            · refine ⟨_, rfl, ?_⟩
              refine RL.m (ld_box rfl hb19 rfl) rfl ?_
              refine RL.nil ?_
              refine AL.o 9 (by kernel_rfl) rfl ?_
              -- call stagecoach/stagecoachref11.Seat (tmp 61)
              have hsz := H.size
              refine RL.call (rSeat _ l[j] (htp.ext H) (by omega)) rfl rfl ?_
              rintro v w8 ⟨⟨s2, rfl, hss, hO⟩, hx⟩
              replace H := H.ext hx; replace hb19 := hb19.ext hx; replace hL := hL.ext hx; replace hLo := hLo.ext hx
              replace hO := hO.mono hsz
              refine RL.nil ?_
              refine AL.o 10 (by kernel_rfl) rfl ?_
              refine RL.buildSlice w0.heap.size H.size rfl rfl rfl rfl rfl ?_
              intro w9 i63 hi63 hx hb63
              replace H := H.ext hx; replace hb19 := hb19.ext hx; replace hL := hL.ext hx; replace hLo := hLo.ext hx; replace hO := hO.ext hx; clear hx
              refine RL.nil ?_
              refine AL.o 11 (by kernel_rfl) rfl ?_
              refine RL.appendS rfl hL H.size rfl (show Sl _ _ [s2] from Box.sl1 hb63) rfl rfl (by decide) rfl cell1 (by omega) (by simp only [maxLen]; omega) rfl ?_
              intro w10 a64 c64 hu hb64 hfr64
              replace hb19 := hb19.upd hu (fun h => hL.box_apart hb19 (by decide) h)
              replace hLo := hLo.ow hL (by decide) hu
              replace hO := hO.upd hu (fun y hy => hO.apart hL (by decide) hy)
              replace H := Ext.own H hL hu; clear hu
              refine RL.nil ?_
              refine AL.p 12 (by kernel_rfl) rfl (nilck rfl) rfl ?_
              refine AL.p 13 (by kernel_rfl) rfl (fa_box rfl) rfl ?_
              refine AL.o 14 (by kernel_rfl) rfl ?_
              have hb19_0 := hb19
              refine RL.store1 rfl hb19 rfl rfl rfl rfl ?_
              intro w11 hu hb19
              replace hLo := hLo.bx hb19_0 (by decide) hu
              replace hO := own_box hO hb19_0 (by decide) hu
              replace hb64 := own_box hb64 hb19_0 (by decide) hu
              replace H := H.box hu hb19.old
              refine RL.nil ?_
              refine AL.nil (by kernel_rfl) ?_
              refine ⟨(a64, c64, x.2.2 ++ [s2]), Head.intro (by repeat (first | with_reducible exact AgreeOff.refl _ _ | with_reducible exact AgreeOff.mix _ _ _ | refine AgreeOff.look rfl ?_ | refine AgreeOff.mixs rfl ?_)) trivial, H, hb19, hb64, hLo.push hO, by rw [List.map_append, hst, List.take_succ_eq_append_getElem hj, List.map_append]; show _ ++ [s2.st] = _; rw [hss]; rfl⟩
            · refine ⟨_, rfl, ?_⟩
              -- call stagecoach/stagecoachref11.Seat (tmp 61)
              have hsz := H.size
              refine RL.call (rSeat _ l[j] (htp.ext H) (by omega)) rfl rfl ?_
              rintro v w12 ⟨⟨s2, rfl, hss, hO⟩, hx⟩
              replace H := H.ext hx; replace hb19 := hb19.ext hx; replace hL := hL.ext hx; replace hLo := hLo.ext hx
              replace hO := hO.mono hsz
              refine RL.nil ?_
              refine AL.m 4 (by kernel_rfl) rfl (ld_box rfl hb19 rfl) rfl ?_
              refine AL.o 10 (by kernel_rfl) rfl ?_
              refine RL.buildSlice w0.heap.size H.size rfl rfl rfl rfl rfl ?_
              intro w13 i63 hi63 hx hb63
              replace H := H.ext hx; replace hb19 := hb19.ext hx; replace hL := hL.ext hx; replace hLo := hLo.ext hx; replace hO := hO.ext hx; clear hx
              refine RL.nil ?_
              refine AL.o 11 (by kernel_rfl) rfl ?_
              refine RL.appendS rfl hL H.size rfl (show Sl _ _ [s2] from Box.sl1 hb63) rfl rfl (by decide) rfl cell1 (by omega) (by simp only [maxLen]; omega) rfl ?_
              intro w14 a64 c64 hu hb64 hfr64
              replace hb19 := hb19.upd hu (fun h => hL.box_apart hb19 (by decide) h)
              replace hLo := hLo.ow hL (by decide) hu
              replace hO := hO.upd hu (fun y hy => hO.apart hL (by decide) hy)
              replace H := Ext.own H hL hu; clear hu
              refine RL.nil ?_
              refine AL.p 12 (by kernel_rfl) rfl (nilck rfl) rfl ?_
              refine AL.p 13 (by kernel_rfl) rfl (fa_box rfl) rfl ?_
              refine AL.o 14 (by kernel_rfl) rfl ?_
              have hb19_0 := hb19
              refine RL.store1 rfl hb19 rfl rfl rfl rfl ?_
              intro w15 hu hb19
              replace hLo := hLo.bx hb19_0 (by decide) hu
              replace hO := own_box hO hb19_0 (by decide) hu
              replace hb64 := own_box hb64 hb19_0 (by decide) hu
              replace H := H.box hu hb19.old
              refine RL.nil ?_
              refine AL.nil (by kernel_rfl) ?_
              refine ⟨(a64, c64, x.2.2 ++ [s2]), Head.intro (by repeat (first | with_reducible exact AgreeOff.refl _ _ | with_reducible exact AgreeOff.mix _ _ _ | refine AgreeOff.look rfl ?_ | refine AgreeOff.mixs rfl ?_)) trivial, H, hb19, hb64, hLo.push hO, by rw [List.map_append, hst, List.take_succ_eq_append_getElem hj, List.map_append]; show _ ++ [s2.st] = _; rw [hss]; rfl⟩
          rintro y jc w16 ⟨H, hb19, hL, hLo, hst2⟩
          refine WP.region ?_
          refine RL.r (mvI rfl) rfl ?_
          refine RL.r (add rfl rfl (by omega)) rfl ?_
          refine RL.r (asgI rfl) rfl ?_
          refine RL.nil ?_
          have hgood : mayS l[j].st ∧ (0 < j → slt l[j - 1].name l[j].name) := ⟨Classical.byContradiction fun h => hc (.inl h), fun h0 => Classical.byContradiction fun h => hc (.inr ⟨by omega, h⟩)⟩
          have hok2 : ∀ (i : Nat) (h : i < l.length), i < j + 1 → mayS l[i].st ∧ (0 < i → slt l[i - 1].name l[i].name) := by
            intro i h hi
            by_cases hij : i < j
            · exact hok i h hij
            · obtain rfl : i = j := by omega
              exact hgood
          refine ⟨k - 1, by omega, j + 1, y, by omega, Head.intro (by repeat (first | with_reducible exact AgreeOff.mix _ _ _ | refine AgreeOff.look rfl ?_ | refine AgreeOff.mixs rfl ?_)) ⟨rfl, trivial⟩, H, hb19, hL, hLo, hst2, hok2⟩
      · refine WP.exit ?_
        refine WP.regionS ?_
        refine RL.r (mvP rfl) rfl ?_
        refine RL.r (asgP rfl) rfl ?_
        refine RL.r (asgI rfl) rfl ?_
        refine RL.nil ?_
        refine WP.ret ?_
        have hall : l.take j = l := List.take_of_length_le (by omega)
        rw [hall] at hst
        have hokg := ok_take (rb := robin) (j := j) hgen hl8 (fun i h hi => hok i h hi)
        rw [hall] at hokg
        refine fin2_ret rfl rfl ⟨.inl ⟨?_, i19, x.1, rfl, ⟨x.2.1, x.2.2, hb19, hL, hst, hLo⟩, hokg⟩, H⟩
        unfold loadE
        rw [if_neg (by omega), if_neg (by assumption), if_pos (show loadOk l from fun i h => hok i h (by omega))]
set_option maxRecDepth 20000 in
set_option maxHeartbeats 800000 in
theorem rAssigned (w0 : World) (B i : Nat) (a : Option Addr) (G : Gs) (hT : Tr B w0 i a G) (name : ByteArray) (gen : Int) (a0 : Option Addr) (c0 : Nat) (l : List Topic) (hl : Sl w0 a0 l) :
    Ct Try.prog 45 #[.pointer (some ⟨i, 0, none⟩), .string name, .int .i64 gen, .slice a0 l.length c0] w0 fun v w' => (∃ a c, v = .tuple #[.slice a (gvP G name gen l).length c, .int .i64 (gvE G name gen l)] ∧ Sl w' a (gvP G name gen l)) ∧ Ext w0 w' := by
  refine Ct.intro2 Try.func45 Try.ntmps45 rfl rfl (by decide) rfl ?_
  have H : Ext w0 w0 := Ext.refl w0
  obtain ⟨c, H0, hbt, hO, hst, how⟩ := hT.at_
  have hok := hT.ok
  have hlH := st_len hst
  have hle8 := hok.len
  have hSc := own_le hO
  refine WP.regionS ?_
  refine RL.r (asgL rfl) rfl ?_
  refine RL.r (asgI rfl) rfl ?_
  refine RL.nil ?_
  refine WP.regionS ?_
  refine RL.build0 (α := Mem) w0.heap.size H.size rfl ?_
  intro w1 i14 hi14 hx hb14
  replace H := H.ext hx; replace hbt := hbt.ext hx; replace hO := hO.ext hx; replace how := how.ext hx; clear hx
  have hM := hb14
  refine RL.r (asgL rfl) rfl ?_
  refine RL.nil ?_
  refine WP.seq ?_
  refine WP.regionS ?_
  refine RL.r (asgI rfl) rfl ?_
  refine RL.nil ?_
  refine WP.block ?_
  refine WP.loop (fun k e' w' => ∃ j : Nat, ∃ (a10 : Option Addr) (c10 : Nat),  j + k = H0.length ∧ Head [10, 11, 15, 16, 17, 18, 19, 20, 21, 22, 23, 24, 25, 26, 27, 28, 29, 30, 31, 32, 33, 34] _ [(10, .slice a10 ((H0.take j).map Seat.m).length c10), (11, .int .i64 (j : Int))] e' ∧ Ext w0 w' ∧ Box B w' i 42 [.int .i64 G.gen, .bool G.rb, .slice a H0.length c] ∧ Own w0.heap.size w' 29 a10 c10 ((H0.take j).map Seat.m) ∧ Own B w' 31 a c H0 ∧ Owns B w' H0) (H0.length)
    ⟨0, _, _, by omega, Head.intro (AgreeOff.refl _ _) ⟨rfl, rfl, trivial⟩, H, hbt, hM, hO, how, ⟩ ?_
  clear H hbt hO how hM
  rintro k e w2 ⟨j, a10, c10, hjk, ⟨jk, rfl⟩, H, hbt, hM, hO, how⟩
  have hml : ((H0.take j).map Seat.m).length ≤ 8 := by rw [List.length_map, List.length_take]; omega
  refine WP.seq ?_
  refine WP.regionS ?_
  refine RL.r (mvI rfl) rfl ?_
  refine RL.r (mvP rfl) rfl ?_
  refine RL.r (nilck rfl) rfl ?_
  refine RL.r (fa_box rfl) rfl ?_
  refine RL.m (ld_box rfl hbt rfl) rfl ?_
  refine RL.r (len_sl rfl) rfl ?_
  refine RL.r (lss rfl rfl) rfl ?_
  refine RL.nil ?_
  refine WP.cond rfl (fun hc => ?_) (fun hc => ?_)
  · refine WP.skip ?_
    refine WP.seq ?_
    refine WP.block ?_
    refine WP.region ?_
    refine RL.r (mvL rfl) rfl ?_
    refine RL.r (mvP rfl) rfl ?_
    refine RL.r (nilck rfl) rfl ?_
    refine RL.r (fa_box rfl) rfl ?_
    refine RL.m (ld_box rfl hbt rfl) rfl ?_
    refine RL.r (mvI rfl) rfl ?_
    have hj : j < H0.length := by omega
    obtain ⟨q, hq⟩ := hO.sl.isAddr (by decide) hj
    subst hq
    refine RL.r (ix rfl rfl rfl hj) rfl ?_
    refine RL.r (fa_el hO.sl.1 rfl) rfl ?_
    refine RL.m (ldS_ef rfl hO.sl (Ext.refl _) hj rfl (Nat.le_of_ble_eq_true rfl)) rfl ?_
    refine RL.buildSlice w0.heap.size H.size rfl rfl rfl rfl rfl ?_
    intro w3 i33 hi33 hx hb33
    replace H := H.ext hx; replace hbt := hbt.ext hx; replace hM := hM.ext hx; replace hO := hO.ext hx; replace how := how.ext hx; clear hx
    refine RL.appendS rfl hM H.size rfl (show Sl _ _ [H0[j].m] from Box.sl1 hb33) rfl rfl (by decide) rfl cell1 (by omega) (by simp only [maxLen]; omega) rfl ?_
    intro w4 a34 c34 hu hb34 hfr34
    replace hbt := hbt.upd hu (fun h => hM.box_apart hbt (by decide) h)
    replace hO := hO.upd hu (fun k hk h => hO.apart hM (by decide) hk h)
    replace how := how.ow hM (by decide) hu
    replace H := Ext.own H hM hu; clear hu
    refine RL.r (asgL rfl) rfl ?_
    refine RL.nil ?_
    refine WP.region ?_
    refine RL.r (mvI rfl) rfl ?_
    refine RL.r (add rfl rfl (by omega)) rfl ?_
    refine RL.r (asgI rfl) rfl ?_
    refine RL.nil ?_
    refine ⟨k - 1, by omega, j + 1, a34, c34, by omega, Head.intro (by repeat (first | with_reducible exact AgreeOff.mix _ _ _ | refine AgreeOff.look rfl ?_ | refine AgreeOff.mixs rfl ?_)) ⟨slE (by rw [List.take_succ_eq_append_getElem hj, List.map_append]; rfl), rfl, trivial⟩, H, hbt, (by rw [List.take_succ_eq_append_getElem hj, List.map_append]; exact hb34), hO, how⟩
  · refine WP.exit ?_
    refine WP.regionS ?_
    refine RL.r (mvL rfl) rfl ?_
    refine RL.r (mvL rfl) rfl ?_
    -- call stagecoach/stagecoachref10.Range (tmp 36) (tmp 37)
    have hjl : j = H0.length := by omega
    rw [hjl, List.take_length] at hM ⊢
    have hsm := same_st hst
    have hck := hsm.check l
    have hszm : ∀ x ∈ H0.map Seat.m, x.name.size ≤ 40 := fun x hx => by
      obtain ⟨y, hy, rfl⟩ := List.mem_map.1 hx
      exact name_le (hok.may y.st (by rw [← hst]; exact List.mem_map_of_mem hy)).1
    have htp : ∀ x ∈ H0.map Seat.m, x.topics.length ≤ 1000 := fun x hx => by
      obtain ⟨y, hy, rfl⟩ := List.mem_map.1 hx
      exact Nat.le_trans (hok.may y.st (by rw [← hst]; exact List.mem_map_of_mem hy)).2.2.1 (by decide)
    refine RL.call (rRange _ a0 a10 c0 c10 l (H0.map Seat.m) (hl.ext H) hM.sl hszm (fun x hx => ⟨by obtain ⟨y, hy, rfl⟩ := List.mem_map.1 hx; exact (how y hy).sl, htp x hx⟩)) rfl rfl ?_
    rintro v w5 ⟨⟨q, cq, g, rfl, hG, hg⟩, hx⟩
    replace H := H.ext hx; replace hbt := hbt.ext hx; replace hM := hM.ext hx; replace hO := hO.ext hx; replace how := how.ext hx
    refine RL.r (mvU rfl) rfl ?_
    refine RL.r (ex0 rfl) rfl ?_
    refine RL.r (ex1 rfl) rfl ?_
    refine RL.r (asgL rfl) rfl ?_
    refine RL.r (asgI rfl) rfl ?_
    refine RL.nil ?_
    refine WP.seq ?_
    refine WP.regionS ?_
    refine RL.r (mvP rfl) rfl ?_
    refine RL.r (nilck rfl) rfl ?_
    refine RL.r (fa_box rfl) rfl ?_
    refine RL.m (ld_box rfl hbt rfl) rfl ?_
    refine RL.nil ?_
    refine WP.cut (α := Option Addr × Nat × List (Rw Part)) [12, 13, 45, 46, 47, 48, 49, 50] (fun x => [(12, .slice x.1 x.2.2.length x.2.1), (13, .int .i64 (checkE l (H0.map Seat.m)))]) (fun x w' => Ext w0 w' ∧ Box B w' i 42 [.int .i64 G.gen, .bool G.rb, .slice a H0.length c] ∧ Own w0.heap.size w' 29 a10 c10 (H0.map Seat.m) ∧ Own B w' 31 a c H0 ∧ Owns B w' H0 ∧ Gr w' x.1 x.2.2 ∧ rows x.2.2 = (if checkE l (H0.map Seat.m) = 0 then giveM G.rb l (H0.map Seat.m) else [])) ?_ ?_
    · refine WP.condB rfl (fun hc => ?_) (fun hc => ?_)
      · refine WP.region ?_
        refine RL.r (mvL rfl) rfl ?_
        refine RL.r (mvL rfl) rfl ?_
        -- call stagecoach/stagecoachref10.Robin (tmp 46) (tmp 47)
        refine RL.call (rRobin _ a0 a10 c0 c10 l (H0.map Seat.m) (hl.ext H) hM.sl hszm (fun x hx => ⟨by obtain ⟨y, hy, rfl⟩ := List.mem_map.1 hx; exact (how y hy).sl, htp x hx⟩)) rfl rfl ?_
        rintro v w6 ⟨⟨q2, cq2, g2, rfl, hG2, hg2⟩, hx⟩
        replace H := H.ext hx; replace hbt := hbt.ext hx; replace hM := hM.ext hx; replace hO := hO.ext hx; replace how := how.ext hx; replace hG := hG.ext hx
        refine RL.r (mvU rfl) rfl ?_
        refine RL.r (ex0 rfl) rfl ?_
        refine RL.r (ex1 rfl) rfl ?_
        refine RL.r (asgL rfl) rfl ?_
        refine RL.r (asgI rfl) rfl ?_
        refine RL.nil ?_
        refine ⟨(q2, cq2, g2), Head.intro (by repeat (first | with_reducible exact AgreeOff.refl _ _ | with_reducible exact AgreeOff.mix _ _ _ | refine AgreeOff.look rfl ?_ | refine AgreeOff.mixs rfl ?_)) ⟨rfl, rfl, trivial⟩, H, hbt, hM, hO, how, hG2, by unfold giveM; rw [if_pos hc]; exact hg2⟩
      · refine WP.skip ?_
        refine ⟨(q, cq, g), Head.intro (by repeat (first | with_reducible exact AgreeOff.refl _ _ | with_reducible exact AgreeOff.mix _ _ _ | refine AgreeOff.look rfl ?_ | refine AgreeOff.mixs rfl ?_)) ⟨rfl, rfl, trivial⟩, H, hbt, hM, hO, how, hG, by unfold giveM; simp only [hc]; exact hg⟩
    clear hG hM hO how hg
    rintro y jc w7 ⟨H, hbt, hM, hO, how, hG, hg⟩
    refine WP.seq ?_
    refine WP.regionS ?_
    refine RL.r (mvI rfl) rfl ?_
    refine RL.r (neq rfl rfl) rfl ?_
    refine RL.nil ?_
    refine WP.cond rfl (fun hc => ?_) (fun hc => ?_)
    · refine WP.regionS ?_
      refine RL.r (mvI rfl) rfl ?_
      refine RL.r (asgL rfl) rfl ?_
      refine RL.r (asgI rfl) rfl ?_
      refine RL.nil ?_
      refine WP.ret ?_
      have hE : gvE G name gen l = checkE l (H0.map Seat.m) := by unfold gvE; rw [← hck, if_pos hc]
      have hP : gvP G name gen l = [] := by unfold gvP; rw [if_neg (by rw [hE]; exact hc)]
      refine fin2_ret rfl rfl ⟨⟨none, 0, by rw [hP, hE]; rfl, by rw [hP]; rfl⟩, H⟩
    · refine WP.skip ?_
      refine WP.regionS ?_
      refine RL.r (mvP rfl) rfl ?_
      refine RL.r (mvS rfl) rfl ?_
      refine RL.r (mvI rfl) rfl ?_
      -- call (*stagecoach/stagecoachref11.Group).Fence (tmp 54) (tmp 55) (tmp 56)
      refine RL.call (rFence _ B i a G (hT.ext H) name gen) rfl rfl ?_
      rintro _ w8 ⟨rfl, hx⟩
      replace H := H.ext hx; replace hbt := hbt.ext hx; replace hM := hM.ext hx; replace hO := hO.ext hx; replace how := how.ext hx; replace hG := hG.ext hx
      refine RL.r (asgI rfl) rfl ?_
      refine RL.nil ?_
      refine WP.seq ?_
      refine WP.regionS ?_
      refine RL.r (mvI rfl) rfl ?_
      refine RL.r (neq rfl rfl) rfl ?_
      refine RL.nil ?_
      refine WP.cond rfl (fun hc => ?_) (fun hc => ?_)
      · refine WP.regionS ?_
        refine RL.r (mvI rfl) rfl ?_
        refine RL.r (asgL rfl) rfl ?_
        refine RL.r (asgI rfl) rfl ?_
        refine RL.nil ?_
        refine WP.ret ?_
        have hE : gvE G name gen l = fenceE G name gen := by unfold gvE; rw [← hck, if_neg (by assumption)]
        have hP : gvP G name gen l = [] := by unfold gvP; rw [if_neg (by rw [hE]; exact hc)]
        refine fin2_ret rfl rfl ⟨⟨none, 0, by rw [hP, hE]; rfl, by rw [hP]; rfl⟩, H⟩
      · refine WP.skip ?_
        refine WP.regionS ?_
        refine RL.r (mvL rfl) rfl ?_
        refine RL.r (mvP rfl) rfl ?_
        refine RL.r (mvS rfl) rfl ?_
        -- call (*stagecoach/stagecoachref11.Group).place (tmp 62) (tmp 63)
        refine RL.call (rPlace _ B i a G (hT.ext H) name) rfl rfl ?_
        rintro _ w9 ⟨rfl, hx⟩
        replace H := H.ext hx; replace hbt := hbt.ext hx; replace hM := hM.ext hx; replace hO := hO.ext hx; replace how := how.ext hx; replace hG := hG.ext hx
        have h0 : fenceE G name gen = 0 := Classical.not_not.1 hc
        have hE : gvE G name gen l = 0 := by unfold gvE; rw [← hck, if_neg (by assumption)]; exact h0
        obtain ⟨j2, hj2, hn2⟩ := place_of (fence0 h0).1
        have hck0 : checkE l (H0.map Seat.m) = 0 := Classical.not_not.1 (by assumption)
        rw [if_pos hck0] at hg
        have hgl : y.2.2.length = G.S.length := by rw [rows_length hg, giveM_len, List.length_map]; exact hlH
        have hj2g : j2 < y.2.2.length := by omega
        have hrj : placeI G.S name = (j2 : Int) := by rw [← hn2]; exact placeI_at hok.srt hj2
        have hG1 := hG.1
        have hya := hG1.someA (by decide) hj2g
        refine RL.r (ix_o rfl rfl hrj hj2g hya) rfl ?_
        refine RL.m (ld_o (v := .slice y.2.2[j2].a y.2.2[j2].l.length y.2.2[j2].c) (off := 0) rfl hG1 (Ext.refl _) rfl (by decide) hj2g (fun h => rfl)) rfl ?_
        refine RL.r (asgL rfl) rfl ?_
        refine RL.r (asgI rfl) rfl ?_
        refine RL.nil ?_
        refine WP.ret ?_
        have hP : gvP G name gen l = y.2.2[j2].l := by
          have hpn : placeN G.S name = j2 := by rw [← hn2]; exact placeN_at hok.srt hj2
          have hgg : giveG G l = giveM G.rb l (H0.map Seat.m) := by
            unfold giveG giveM
            rw [hsm.range, hsm.robin]
          unfold gvP
          rw [if_pos hE, hpn, hgg, rows_r y.2.2 hg hj2g]
          rfl
        refine fin2_ret rfl rfl ⟨⟨y.2.2[j2].a, y.2.2[j2].c, by rw [hP, hE]; rfl, by rw [hP]; exact hG.2 _ (List.getElem_mem hj2g)⟩, H⟩
set_option maxRecDepth 20000 in
set_option maxHeartbeats 800000 in
theorem rSameG (w0 : World) (a b : Option Addr) (c d : Nat) (x y : List Seat) (ha0 : Sl w0 a x) (hb0 : Sl w0 b y) (hlen : x.length ≤ 100000) (hta : ∀ s ∈ x, Sl w0 s.ta s.topics ∧ s.topics.length ≤ 100000) (htb : ∀ s ∈ y, Sl w0 s.ta s.topics) :
    Ct Try.prog 46 #[.slice a x.length c, .slice b y.length d] w0 fun v w' => v = .bool (decide (x.map Seat.st = y.map Seat.st)) ∧ Ext w0 w' := by
  refine Ct.intro1 Try.func46 Try.ntmps46 rfl rfl (by decide) rfl ?_
  have H : Ext w0 w0 := Ext.refl w0
  refine WP.regionS ?_
  refine RL.r (asgB rfl) rfl ?_
  refine RL.nil ?_
  refine WP.seq ?_
  refine WP.regionS ?_
  refine RL.r (mvL rfl) rfl ?_
  refine RL.r (len_sl rfl) rfl ?_
  refine RL.r (mvL rfl) rfl ?_
  refine RL.r (len_sl rfl) rfl ?_
  refine RL.r (neq rfl rfl) rfl ?_
  refine RL.nil ?_
  refine WP.cond rfl (fun hc => ?_) (fun hc => ?_)
  · refine WP.regionS ?_
    refine RL.r (asgB rfl) rfl ?_
    refine RL.nil ?_
    refine WP.ret ?_
    refine fin1_ret rfl ⟨congrArg Value.bool (bF (fun h => hc (by have := congrArg List.length h; rw [List.length_map, List.length_map] at this; omega))), H⟩
  · refine WP.skip ?_
    refine WP.seq ?_
    refine WP.regionS ?_
    refine RL.r (asgI rfl) rfl ?_
    refine RL.nil ?_
    refine WP.block ?_
    refine WP.loop (fun k e' w' => ∃ j : Nat,  j + k = x.length ∧ Head [4, 5, 11, 12, 13, 14, 15, 16, 17, 18, 19, 20, 21, 22, 23, 24, 25, 26, 27, 28, 29, 30, 31, 32, 33, 34, 35, 36, 37, 38, 39, 40, 41, 42, 43, 44, 45, 46, 47, 48, 49, 50, 51, 52, 53, 54, 55, 56, 57, 58, 59, 60, 61, 62, 63, 64, 65, 66, 67, 68, 69, 70, 71] _ [(5, .int .i64 (j : Int))] e' ∧ Ext w0 w' ∧ ∀ (i : Nat) (h : i < x.length) (h2 : i < y.length), i < j → x[i].st = y[i].st) (x.length)
      ⟨0, by omega, Head.intro (AgreeOff.refl _ _) ⟨rfl, trivial⟩, H, fun i h h2 hi => by omega⟩ ?_
    clear H
    rintro k e w1 ⟨j, hjk, ⟨jk, rfl⟩, H, hok⟩
    refine WP.seq ?_
    refine WP.regionS ?_
    refine RL.r (mvI rfl) rfl ?_
    refine RL.r (mvL rfl) rfl ?_
    refine RL.r (len_sl rfl) rfl ?_
    refine RL.r (lss rfl rfl) rfl ?_
    refine RL.nil ?_
    refine WP.cond rfl (fun hc => ?_) (fun hc => ?_)
    · refine WP.skip ?_
      refine WP.seq ?_
      refine WP.block ?_
      refine WP.seq ?_
      refine WP.draw (by kernel_rfl) ?_
      refine QL.r (mvL rfl) rfl ?_
      refine QL.r (mvI rfl) rfl ?_
      have hj : j < x.length := by omega
      have hj2 : j < y.length := by omega
      obtain ⟨p, rfl⟩ := ha0.isAddr (by decide) hj
      obtain ⟨q, rfl⟩ := hb0.isAddr (by decide) hj2
      have hta1 := hta _ (List.getElem_mem hj)
      have htb1 := htb _ (List.getElem_mem hj2)
      have hC : ∀ w', Ext _ w' → Ct Try.prog 30 #[.slice x[j].ta x[j].topics.length x[j].tc, .slice y[j].ta y[j].topics.length y[j].tc] w' fun u w'' => u = .bool (decide (x[j].topics = y[j].topics)) ∧ Ext w' w'' := fun w' hw' => rTexts w' x[j].ta y[j].ta x[j].tc y[j].tc x[j].topics y[j].topics (hta1.1.ext (H.ext hw')) (htb1.ext (H.ext hw')) hta1.2
      refine QL.r (ix rfl rfl rfl hj) rfl ?_
      refine QL.r (fa_el ha0.1 rfl) rfl ?_
      refine QL.r (fa_el ha0.1 rfl) rfl ?_
      refine QL.m (ld_el rfl ha0 H rfl hj rfl) rfl ?_
      refine QL.r (mvL rfl) rfl ?_
      refine QL.r (mvI rfl) rfl ?_
      refine QL.r (ix rfl rfl rfl hj2) rfl ?_
      refine QL.r (fa_el hb0.1 rfl) rfl ?_
      refine QL.r (fa_el hb0.1 rfl) rfl ?_
      refine QL.m (ld_el rfl hb0 H rfl hj2 rfl) rfl ?_
      refine QL.r (sneq rfl rfl) rfl ?_
      refine QL.r (mvB rfl) rfl ?_
      refine QL.gg (gwF rfl rfl) (fun hg => (mvL rfl).does _) rfl ?_
      refine QL.gg (gwF rfl rfl) (fun hg => (mvI rfl).does _) rfl ?_
      refine QL.gg (gwF rfl rfl) (fun hg => (ix (gs hg rfl) (gs hg rfl) rfl hj).does _) rfl ?_
      refine QL.gg (gwF rfl rfl) (fun hg => (fa_el ha0.1 (gs hg rfl)).does _) rfl ?_
      refine QL.gg (gwF rfl rfl) (fun hg => (fa_el ha0.1 (gs hg rfl)).does _) rfl ?_
      refine QL.gg (gwF rfl rfl) (fun hg => ld_el (gs hg rfl) ha0 H rfl hj rfl) rfl ?_
      refine QL.gg (gwF rfl rfl) (fun hg => (mvL rfl).does _) rfl ?_
      refine QL.gg (gwF rfl rfl) (fun hg => (mvI rfl).does _) rfl ?_
      refine QL.gg (gwF rfl rfl) (fun hg => (ix (gs hg rfl) (gs hg rfl) rfl hj2).does _) rfl ?_
      refine QL.gg (gwF rfl rfl) (fun hg => (fa_el hb0.1 (gs hg rfl)).does _) rfl ?_
      refine QL.gg (gwF rfl rfl) (fun hg => (fa_el hb0.1 (gs hg rfl)).does _) rfl ?_
      refine QL.gg (gwF rfl rfl) (fun hg => ld_el (gs hg rfl) hb0 H rfl hj2 rfl) rfl ?_
      -- call stagecoach/stagecoachref04.Texts (tmp 36) (tmp 42)
      refine QL.gcall (gwF rfl rfl) (fun hg w' hw' => hC w' hw') (fun hg => EvL.cons (gs hg rfl) (EvL.cons (gs hg rfl) (EvL.nil))) rfl ?_
      first | refine QL.gg (gwF rfl rfl) (fun hg => (notD (gs hg rfl)).does _) rfl ?_ | refine QL.gg (gwF rfl rfl) (fun hg => (not_ (gs hg rfl)).does _) rfl ?_
      refine QL.r (pickOr rfl (fun hn => gs hn rfl)) rfl ?_
      refine QL.r (mvB rfl) rfl ?_
      refine QL.gg (gwF rfl rfl) (fun hg => (mvL rfl).does _) rfl ?_
      refine QL.gg (gwF rfl rfl) (fun hg => (mvI rfl).does _) rfl ?_
      refine QL.gg (gwF rfl rfl) (fun hg => (ix (gs hg rfl) (gs hg rfl) rfl hj).does _) rfl ?_
      refine QL.gg (gwF rfl rfl) (fun hg => (fa_el ha0.1 (gs hg rfl)).does _) rfl ?_
      refine QL.gg (gwF rfl rfl) (fun hg => ld_el (gs hg rfl) ha0 H rfl hj rfl) rfl ?_
      refine QL.gg (gwF rfl rfl) (fun hg => (mvL rfl).does _) rfl ?_
      refine QL.gg (gwF rfl rfl) (fun hg => (mvI rfl).does _) rfl ?_
      refine QL.gg (gwF rfl rfl) (fun hg => (ix (gs hg rfl) (gs hg rfl) rfl hj2).does _) rfl ?_
      refine QL.gg (gwF rfl rfl) (fun hg => (fa_el hb0.1 (gs hg rfl)).does _) rfl ?_
      refine QL.gg (gwF rfl rfl) (fun hg => ld_el (gs hg rfl) hb0 H rfl hj2 rfl) rfl ?_
      refine QL.gg (gwF rfl rfl) (fun hg => (neq (gs hg rfl) (gs hg rfl)).does _) rfl ?_
      refine QL.r (pickOr rfl (fun hn => gs hn rfl)) rfl ?_
      refine QL.r (mvB rfl) rfl ?_
      refine QL.gg (gwF rfl rfl) (fun hg => (mvL rfl).does _) rfl ?_
      refine QL.gg (gwF rfl rfl) (fun hg => (mvI rfl).does _) rfl ?_
      refine QL.gg (gwF rfl rfl) (fun hg => (ix (gs hg rfl) (gs hg rfl) rfl hj).does _) rfl ?_
      refine QL.gg (gwF rfl rfl) (fun hg => (fa_el ha0.1 (gs hg rfl)).does _) rfl ?_
      refine QL.gg (gwF rfl rfl) (fun hg => ld_el (gs hg rfl) ha0 H rfl hj rfl) rfl ?_
      refine QL.gg (gwF rfl rfl) (fun hg => (mvL rfl).does _) rfl ?_
      refine QL.gg (gwF rfl rfl) (fun hg => (mvI rfl).does _) rfl ?_
      refine QL.gg (gwF rfl rfl) (fun hg => (ix (gs hg rfl) (gs hg rfl) rfl hj2).does _) rfl ?_
      refine QL.gg (gwF rfl rfl) (fun hg => (fa_el hb0.1 (gs hg rfl)).does _) rfl ?_
      refine QL.gg (gwF rfl rfl) (fun hg => ld_el (gs hg rfl) hb0 H rfl hj2 rfl) rfl ?_
      refine QL.gg (gwF rfl rfl) (fun hg => (neq (gs hg rfl) (gs hg rfl)).does _) rfl ?_
      refine QL.r (pickOr rfl (fun hn => gs hn rfl)) rfl ?_
      refine QL.nil ?_; intro w3 hx; replace H := H.ext hx
      refine WP.cond rfl (fun hc => ?_) (fun hc => ?_)
      · refine WP.regionS ?_
        refine RL.r (asgB rfl) rfl ?_
        refine RL.nil ?_
        refine WP.ret ?_
        refine fin1_ret rfl ⟨congrArg Value.bool (bF (fun h => ?_)), H⟩
        have e := same_at h hj hj2
        rcases hc with ((hc | hc) | hc) | hc
        · exact hc (congrArg St.name e)
        · exact hc (congrArg St.topics e)
        · exact hc (congrArg St.timeout e)
        · exact hc (congrArg St.seen e)
      · refine WP.skip ?_
        refine WP.region ?_
        refine RL.r (mvI rfl) rfl ?_
        refine RL.r (add rfl rfl (by omega)) rfl ?_
        refine RL.r (asgI rfl) rfl ?_
        refine RL.nil ?_
        refine ⟨k - 1, by omega, j + 1, by omega, Head.intro (by repeat (first | with_reducible exact AgreeOff.mix _ _ _ | refine AgreeOff.look rfl ?_ | refine AgreeOff.mixs rfl ?_)) ⟨rfl, trivial⟩, H, fun i h h2 hi => ?_⟩
        by_cases e : i < j
        · exact hok i h h2 e
        · obtain rfl : i = j := by omega
          have h1 : x[i].name = y[i].name := Classical.byContradiction fun h => hc (.inl (.inl (.inl h)))
          have h2' : x[i].topics = y[i].topics := Classical.byContradiction fun h => hc (.inl (.inl (.inr h)))
          have h3 : x[i].timeout = y[i].timeout := Classical.byContradiction fun h => hc (.inl (.inr h))
          have h4 : x[i].seen = y[i].seen := Classical.byContradiction fun h => hc (.inr h)
          show (⟨x[i].name, x[i].topics, x[i].timeout, x[i].seen⟩ : St) = ⟨y[i].name, y[i].topics, y[i].timeout, y[i].seen⟩
          rw [h1, h2', h3, h4]
    · refine WP.exit ?_
      refine WP.regionS ?_
      refine RL.r (asgB rfl) rfl ?_
      refine RL.nil ?_
      refine WP.ret ?_
      refine fin1_ret rfl ⟨congrArg Value.bool (bT (same_iff (by omega) (fun i h h2 => hok i h h2 (by omega)))), H⟩
theorem cut_size (s : ByteArray) (n : Nat) : (s.extract 0 (min s.size n)).size ≤ n := by
  rw [ByteArray.size_extract]; omega
/-- a seat whose topics are the call's own, of bounded texts -/
structure CutO (B : Nat) (w : World) (s : Seat) : Prop where
  own : Own B w 9 s.ta s.tc s.topics
  len : s.topics.length ≤ 10
  txt : ∀ t ∈ s.topics, t.size ≤ 40
  nm : s.name.size ≤ 40
theorem CutO.ext {B : Nat} {w w' : World} {s : Seat} (h : CutO B w s) (k : Ext w w') : CutO B w' s := ⟨h.own.ext k, h.len, h.txt, h.nm⟩
theorem CutO.mono {B B' : Nat} {w : World} {s : Seat} (h : CutO B w s) (k : B' ≤ B) : CutO B' w s := ⟨h.own.mono k, h.len, h.txt, h.nm⟩
theorem boxow {α : Type} [Lies α] {B B' : Nat} {w w' : World} {T T' : TypeId} {a : Option Addr} {c b : Nat} {l : List α} {cs : List Value} (ho : Box B' w b T' cs) (h : Own B w T a c l) (hT : T ≠ T') (k : Upd (inBlock a) w w') : Box B' w' b T' cs := ho.upd k (fun y => h.box_apart ho hT y)
theorem ownbx {α : Type} [Lies α] {B B' : Nat} {w w' : World} {T T' : TypeId} {a : Option Addr} {c b : Nat} {l : List α} {cs : List Value} (h : Own B w T a c l) (ho : Box B' w b T' cs) (hT : T ≠ T') (k : Upd (· = b) w w') : Own B w' T a c l := h.upd k (fun y hy e => by subst e; exact h.box_apart ho hT hy)
set_option maxRecDepth 20000 in
set_option maxHeartbeats 800000 in
theorem lCut' (w0 : World) (nm : ByteArray) (ta : Option Addr) (tc : Nat) (tp : List ByteArray) (tmo se : Int) (hl : SlI w0 ta tp) :
    Ct Try.prog 22 #[.agg [.string nm, .slice ta tp.length tc, .int .i64 tmo, .int .i64 se].toArray] w0 fun v w' => (∃ s' : Seat, v = .agg (Lies.enc s').toArray ∧ CutO w0.heap.size w' s') ∧ Ext w0 w' := by
  refine Ct.introC Try.func22 Try.ntmps22 rfl rfl (by decide) rfl ?_
  have H : Ext w0 w0 := Ext.refl w0
  refine WP.regionS ?_
  refine RL.boxS w0.heap.size H.size rfl rfl ?_
  intro w1 i1 hi1 hx hb1
  replace H := H.ext hx; clear hx
  refine RL.alloc w0.heap.size H.size rfl rfl ?_
  intro w2 i2 hi2 hx hb2
  have ne1_2 := hb1.ne hi2
  replace H := H.ext hx; replace hb1 := hb1.ext hx; clear hx
  refine RL.nil ?_
  refine WP.seq ?_
  refine WP.any ?_
  intro w3 hx; replace H := H.ext hx; replace hb1 := hb1.ext hx; replace hb2 := hb2.ext hx
  refine AL.p 0 (by kernel_rfl) rfl (fa_box rfl) rfl ?_
  refine AL.p 1 (by kernel_rfl) rfl (fa_box rfl) rfl ?_
  refine AL.p 3 (by kernel_rfl) rfl (fa_box rfl) rfl ?_
  refine AL.p 4 (by kernel_rfl) rfl (fa_box rfl) rfl ?_
  refine AL.p 10 (by kernel_rfl) rfl (fa_box rfl) rfl ?_
  refine AL.p 12 (by kernel_rfl) rfl (fa_box rfl) rfl ?_
  refine AL.m 2 (by kernel_rfl) rfl (ld_box rfl hb1 rfl) rfl ?_
  refine AL.m 5 (by kernel_rfl) rfl (ld_box rfl hb1 rfl) rfl ?_
  refine AL.p 6 (by kernel_rfl) rfl (len_str rfl) rfl ?_
  refine AL.p 7 (by kernel_rfl) rfl (min_i rfl rfl) rfl ?_
  refine AL.p 8 (by kernel_rfl) rfl (slcS (n := min nm.size 40) rfl rfl (by omega) (by omega)) rfl ?_
  refine AL.p 9 (by kernel_rfl) rfl (bld rfl rfl) rfl ?_
  refine AL.m 11 (by kernel_rfl) rfl (ld_box rfl hb1 rfl) rfl ?_
  refine AL.m 13 (by kernel_rfl) rfl (ld_box rfl hb1 rfl) rfl ?_
  refine AL.p 14 (by kernel_rfl) rfl (bld rfl rfl) rfl ?_
  refine AL.o 15 (by kernel_rfl) rfl ?_
  refine RL.alloc w0.heap.size H.size rfl rfl ?_
  intro w4 i3 hi3 hx hb3
  have ne1_3 := hb1.ne hi3
  have ne2_3 := hb2.ne hi3
  refine RL.nil ?_
  refine AL.o 16 (by kernel_rfl) rfl ?_
  refine RL.storeS rfl hb3 rfl rfl rfl rfl ?_
  intro w5 hu hb3
  replace hx := hx.box hu (Nat.le_of_eq hi3.symm)
  replace H := H.ext hx; replace hb1 := hb1.ext hx; replace hb2 := hb2.ext hx; clear hx hu
  refine RL.nil ?_
  refine AL.nil (by kernel_rfl) ?_
  refine WP.seq ?_
  refine WP.regionS ?_
  refine RL.r (asgI rfl) rfl ?_
  refine RL.nil ?_
  refine WP.block ?_
  refine WP.loop (fun k e' w' => ∃ j : Nat, ∃ (a3 : Option Addr) (c3 : Nat) (T3 : List ByteArray),  j + k = min tp.length 10 ∧ Head [4, 20, 21, 22, 23, 24, 25, 26, 27, 28, 29, 30, 31, 32, 33, 34, 35, 36, 37, 38, 39, 40, 41, 42, 43, 44, 45, 46, 47, 48, 49, 50, 51, 52, 53] _ [(4, .int .i64 (j : Int))] e' ∧ Ext w0 w' ∧ Box w0.heap.size w' i1 31 [.string nm, .slice ta tp.length tc, .int .i64 tmo, .int .i64 se] ∧ Box w0.heap.size w' i2 31 [.string (ByteArray.mk #[]), .slice none 0 0, .int .i64 0, .int .i64 0] ∧ Box w0.heap.size w' i3 31 [.string (nm.extract 0 (min nm.size 40)), .slice a3 T3.length c3, .int .i64 tmo, .int .i64 se] ∧ Own w0.heap.size w' 9 a3 c3 T3 ∧ T3.length ≤ j ∧ ∀ t ∈ T3, t.size ≤ 40) (min tp.length 10)
    ⟨0, none, 0, [], by omega, Head.intro (AgreeOff.refl _ _) ⟨rfl, trivial⟩, H, hb1, hb2, hb3, Own.nil _ _ _, Nat.le_refl _, fun t ht => by cases ht⟩ ?_
  clear H hb1 hb2 hb3
  rintro k e w6 ⟨j, a3, c3, T3, hjk, ⟨jk, rfl⟩, H, hb1, hb2, hb3, hT, hTl, hTs⟩
  refine WP.seq ?_
  refine WP.seq (WP.quiet ?_)
  refine QL.r (mvI rfl) rfl ?_
  refine QL.r (fa_box rfl) rfl ?_
  refine QL.r (fa_box rfl) rfl ?_
  refine QL.m (ld_box rfl hb1 rfl) rfl ?_
  refine QL.r (len_sl rfl) rfl ?_
  refine QL.r (lss rfl rfl) rfl ?_
  refine QL.r (mvB rfl) rfl ?_
  refine QL.gg (gwT rfl rfl) (fun hg => (mvI rfl).does _) rfl ?_
  refine QL.gg (gwT rfl rfl) (fun hg => (lss (gs hg rfl) rfl).does _) rfl ?_
  refine QL.r (pickAnd rfl (fun hn => gs hn rfl)) rfl ?_
  refine QL.nil ?_; intro w7 hx; replace H := H.ext hx; replace hb1 := hb1.ext hx; replace hb2 := hb2.ext hx; replace hb3 := hb3.ext hx; replace hT := hT.ext hx
  refine WP.cond rfl (fun hc => ?_) (fun hc => ?_)
  · refine WP.skip ?_
    refine WP.seq ?_
    refine WP.block ?_
    refine WP.any ?_
    intro w8 hx; replace H := H.ext hx; replace hb1 := hb1.ext hx; replace hb2 := hb2.ext hx; replace hb3 := hb3.ext hx; replace hT := hT.ext hx
    refine AL.p 0 (by kernel_rfl) rfl (fa_box rfl) rfl ?_
    refine AL.p 1 (by kernel_rfl) rfl (fa_box rfl) rfl ?_
    refine AL.p 3 (by kernel_rfl) rfl (fa_box rfl) rfl ?_
    refine AL.p 4 (by kernel_rfl) rfl (fa_box rfl) rfl ?_
    refine AL.p 6 (by kernel_rfl) rfl (mvI rfl) rfl ?_
    refine AL.p 9 (by kernel_rfl) rfl (fa_box rfl) rfl ?_
    refine AL.p 10 (by kernel_rfl) rfl (fa_box rfl) rfl ?_
    refine AL.p 12 (by kernel_rfl) rfl (mvI rfl) rfl ?_
    refine AL.m 2 (by kernel_rfl) rfl (ld_box rfl hb3 rfl) rfl ?_
    refine AL.m 5 (by kernel_rfl) rfl (ld_box rfl hb1 rfl) rfl ?_
    have hj : j < tp.length := by omega
    have hl := hl (List.ne_nil_of_length_pos (by omega))
    obtain ⟨p, rfl⟩ := hl.isAddr (by decide) hj
    refine AL.p 7 (by kernel_rfl) rfl (ix rfl rfl rfl hj) rfl ?_
    refine AL.m 8 (by kernel_rfl) rfl (ld_e0 rfl hl H rfl hj rfl) rfl ?_
    refine AL.m 11 (by kernel_rfl) rfl (ld_box rfl hb1 rfl) rfl ?_
    refine AL.p 13 (by kernel_rfl) rfl (ix rfl rfl rfl hj) rfl ?_
    refine AL.m 14 (by kernel_rfl) rfl (ld_e0 rfl hl H rfl hj rfl) rfl ?_
    refine AL.p 15 (by kernel_rfl) rfl (len_str rfl) rfl ?_
    refine AL.p 16 (by kernel_rfl) rfl (min_i rfl rfl) rfl ?_
    refine AL.p 17 (by kernel_rfl) rfl (slcS (n := min tp[j].size 40) rfl rfl (by omega) (by omega)) rfl ?_
    refine AL.o 18 (by kernel_rfl) rfl ?_
    refine RL.buildSlice w0.heap.size H.size rfl rfl rfl rfl rfl ?_
    intro w9 i50 hi50 hx hb50
    replace H := H.ext hx; replace hb1 := hb1.ext hx; replace hb2 := hb2.ext hx; replace hb3 := hb3.ext hx; replace hT := hT.ext hx; clear hx
    refine RL.nil ?_
    refine AL.o 19 (by kernel_rfl) rfl ?_
    refine RL.appendS rfl hT H.size rfl (show Sl _ _ [tp[j].extract 0 (min tp[j].size 40)] from Box.sl1 hb50) rfl rfl (by decide) rfl cell1 (by omega) (by simp only [maxLen]; omega) rfl ?_
    intro w10 a51 c51 hu hb51 hfr51
    replace hb1 := boxow hb1 hT (by decide) hu
    replace hb2 := boxow hb2 hT (by decide) hu
    replace hb3 := boxow hb3 hT (by decide) hu
    replace H := Ext.own H hT hu; clear hu
    have hb3o := hb3
    refine RL.nil ?_
    refine AL.p 20 (by kernel_rfl) rfl (fa_box rfl) rfl ?_
    refine AL.p 21 (by kernel_rfl) rfl (fa_box rfl) rfl ?_
    refine AL.o 22 (by kernel_rfl) rfl ?_
    refine RL.store1 rfl hb3 rfl rfl rfl rfl ?_
    intro w11 hu hb3
    replace H := H.box hu hb3.old; replace hb1 := hb1.upd hu ne1_3; replace hb2 := hb2.upd hu ne2_3
    refine RL.nil ?_
    refine AL.nil (by kernel_rfl) ?_
    refine WP.region ?_
    refine RL.r (mvI rfl) rfl ?_
    refine RL.r (add rfl rfl (by omega)) rfl ?_
    refine RL.r (asgI rfl) rfl ?_
    refine RL.nil ?_
    replace hb51 := ownbx hb51 hb3o (by decide) hu
    refine ⟨k - 1, by omega, j + 1, _, _, _, by omega, Head.intro (by repeat (first | with_reducible exact AgreeOff.mix _ _ _ | refine AgreeOff.look rfl ?_ | refine AgreeOff.mixs rfl ?_)) ⟨rfl, trivial⟩, H, hb1, hb2, hb3, hb51, by rw [List.length_append]; simp only [List.length_cons, List.length_nil]; omega, ?_⟩
    intro t ht
    rcases List.mem_append.1 ht with h | h
    · exact hTs t h
    · rw [List.mem_singleton.1 h]; exact cut_size _ _
  · refine WP.exit ?_
    refine WP.regionS ?_
    refine RL.m (ldS_box rfl hb3 (Nat.le_of_ble_eq_true rfl) rfl) rfl ?_
    refine RL.storeS rfl hb2 rfl rfl rfl rfl ?_
    intro w12 hu hb2
    replace H := H.box hu hb2.old; replace hb1 := hb1.upd hu ne1_2; replace hb3 := hb3.upd hu (Ne.symm ne2_3)
    refine RL.nil ?_
    refine WP.ret ?_
    have hT4 := ownbx hT (by assumption) (by decide) hu
    refine finC_ret rfl hb2 ⟨⟨_, rfl, rfl⟩, ⟨⟨nm.extract 0 (min nm.size 40), a3, c3, T3, tmo, se⟩, rfl, hT4, by show T3.length ≤ 10; omega, hTs, cut_size _ _⟩, H⟩
theorem lCut (w0 : World) (s : Seat) (hl : SlI w0 s.ta s.topics) :
    Ct Try.prog 22 #[.agg (Lies.enc s).toArray] w0 fun v w' => (∃ s' : Seat, v = .agg (Lies.enc s').toArray ∧ CutO w0.heap.size w' s') ∧ Ext w0 w' :=
  lCut' w0 s.name s.ta s.tc s.topics s.timeout s.seen hl
theorem CutO.bx {B B' b : Nat} {w w' : World} {s : Seat} {T : TypeId} {cs : List Value} (h : CutO B w s) (hb : Box B' w b T cs) (hT : 9 ≠ T) (k : Upd (· = b) w w') : CutO B w' s := ⟨ownbx h.own hb hT k, h.len, h.txt, h.nm⟩
theorem CutO.xg {B B' i m : Nat} {w w' : World} {G : Gs} {s : Seat} (h : CutO B' w s) (hT : Tg B w i m G) (k : Upd (XG i m) w w') : CutO B' w' s := ⟨own_xg h.own hT (by decide) k, h.len, h.txt, h.nm⟩
theorem top_le {G : Gs} {L : List Seat} (h : okG G) (hm : L.map Seat.st = G.S) : ∀ x ∈ L, x.topics.length ≤ 100000 := fun x hx => by
  have h2 : x.st ∈ G.S := by rw [← hm]; exact List.mem_map_of_mem hx
  have := (h.may _ h2).2.2.1
  show x.st.topics.length ≤ 100000
  omega
/-- what a call on both turns -/
def XS (i m i2 : Nat) (a : Option Addr) (k : Nat) : Prop := XG i m k ∨ XR i2 a k
theorem xs_old {B i m i2 n : Nat} {a : Option Addr} {w : World} {G G' : Gs} (hT : Tg B w i m G) (hR : Tr B w i2 a G') (hn : n ≤ B) : ∀ k, XS i m i2 a k → n ≤ k := by
  rintro k (h | h)
  · exact xg_old hT hn k h
  · exact xr_old hR hn k h
theorem box_xs {B B' i m i2 b : Nat} {a : Option Addr} {w w' : World} {G G' : Gs} {T : TypeId} {cs : List Value} (h : Box B' w b T cs) (hT : Tg B w i m G) (hR : Tr B w i2 a G') (h1 : T ≠ 75) (h2 : T ≠ 42) (h3 : 31 ≠ T) (k : Upd (XS i m i2 a) w w') : Box B' w' b T cs := by
  obtain ⟨c', H, hb, ho, _⟩ := hR.at_
  refine h.upd k ?_
  rintro ((e | e) | (e | e))
  · exact box_nt h hT.box h1 e
  · exact hT.neb h e
  · exact box_nt h hb h2 e
  · exact ho.box_apart h h3 e
theorem bTT {p q : Prop} {dp : Decidable p} {dq : Decidable q} (hp : p) (hq : q) : Value.bool (@decide p dp) = Value.bool (@decide q dq) := by
  rw [decide_eq_true hp, decide_eq_true hq]
abbrev r1 {i2 : Nat} {a : Option Addr} {w w' : World} (h : Upd (· = i2) w w') : Upd (XR i2 a) w w' := Upd.mono h fun _ _ e => Or.inl e
set_option maxRecDepth 20000 in
set_option maxHeartbeats 800000 in
theorem lSame (w0 : World) (B i m i2 : Nat) (a : Option Addr) (G : Gs) (hT : Tg B w0 i m G) (hR : Tr B w0 i2 a G) :
    Ct Try.prog 20 #[.pointer (some ⟨i, 0, none⟩), .pointer (some ⟨i2, 0, none⟩)] w0 fun v w' => v = .bool (decide ((0 : Nat) = 0)) ∧ Ext w0 w' := by
  refine Ct.intro1 Try.func20 Try.ntmps20 rfl rfl (by decide) rfl ?_
  have H : Ext w0 w0 := Ext.refl w0
  obtain ⟨c, H0, hbt, hO, hst, how⟩ := hR.at_
  have hok := hT.ok
  refine WP.regionS ?_
  refine RL.r (asgB rfl) rfl ?_
  refine RL.nil ?_
  refine WP.regionS ?_
  refine RL.r (mvP rfl) rfl ?_
  -- call (*stagecoach/group.Group).Gen (tmp 8)
  refine RL.call (gGen _ B i m G hT) rfl rfl ?_
  rintro _ w1 ⟨rfl, hx⟩
  replace H := H.ext hx; replace hbt := hbt.ext hx; replace hO := hO.ext hx; replace how := how.ext hx
  refine RL.r (mvU rfl) rfl ?_
  refine RL.r (ex0 rfl) rfl ?_
  refine RL.r (ex1 rfl) rfl ?_
  refine RL.r (asgI rfl) rfl ?_
  refine RL.r (asgB rfl) rfl ?_
  refine RL.nil ?_
  refine WP.seq ?_
  refine WP.cutN (α := Unit) [4, 12, 13, 14, 15, 16, 17, 18, 19, 20, 21, 22, 23, 24, 25, 26, 27, 28, 29, 30, 31, 32, 33, 34] (fun x => [(4, .bool (decide ((0 : Nat) = 0)))]) (fun x w' => Ext w0 w' ∧ Box B w' i2 42 [.int .i64 G.gen, .bool G.rb, .slice a H0.length c] ∧ True) ?_ ?_
  · refine WP.any ?_
    intro w2 hx; replace H := H.ext hx; replace hbt := hbt.ext hx; replace hO := hO.ext hx; replace how := how.ext hx
    refine AL.p 0 (by kernel_rfl) rfl (mvI rfl) rfl ?_
    refine AL.p 1 (by kernel_rfl) rfl (mvP rfl) rfl ?_
    refine AL.p 2 (by kernel_rfl) rfl (nilck rfl) rfl ?_
    refine AL.p 3 (by kernel_rfl) rfl (fa_box rfl) rfl ?_
    refine AL.m 4 (by kernel_rfl) rfl (ld_box rfl hbt rfl) rfl ?_
    refine AL.p 5 (by kernel_rfl) rfl (eql rfl rfl) rfl ?_
    refine AL.mvT 6 (by kernel_rfl) rfl rfl (by first | assumption | omega) rfl ?_
    refine AL.pg 7 (by kernel_rfl) rfl rfl rfl rfl (mvB rfl) rfl ?_
    refine AL.pg 8 (by kernel_rfl) rfl rfl rfl rfl (mvP rfl) rfl ?_
    refine AL.pg 9 (by kernel_rfl) rfl rfl rfl rfl (nilck rfl) rfl ?_
    refine AL.pg 10 (by kernel_rfl) rfl rfl rfl rfl (fa_box rfl) rfl ?_
    refine AL.mg 11 (by kernel_rfl) rfl rfl rfl rfl (ld_box rfl hbt rfl) rfl ?_
    refine AL.pg 12 (by kernel_rfl) rfl rfl rfl rfl (beql rfl rfl) rfl ?_
    refine AL.p 13 (by kernel_rfl) rfl (pickT rfl) rfl ?_
    refine AL.mvT 14 (by kernel_rfl) rfl rfl rfl rfl ?_
    refine AL.pg 15 (by kernel_rfl) rfl rfl rfl rfl (mvP rfl) rfl ?_
    refine AL.pg 17 (by kernel_rfl) rfl rfl rfl rfl (mvP rfl) rfl ?_
    refine AL.pg 18 (by kernel_rfl) rfl rfl rfl rfl (nilck rfl) rfl ?_
    refine AL.pg 19 (by kernel_rfl) rfl rfl rfl rfl (fa_box rfl) rfl ?_
    refine AL.all (rs := [16, 20]) (by kernel_rfl) rfl ?_
    rintro i hi; simp only [List.mem_cons, List.not_mem_nil, or_false] at hi; rcases hi with rfl | rfl
    · refine ⟨_, rfl, ?_⟩
      refine RL.yes rfl rfl rfl ?_
      -- call (*stagecoach/group.Group).Seats (tmp 27)
      refine RL.call (gSeats _ B i m G (hT.ext H)) rfl rfl ?_
      rintro v w3 ⟨⟨aL, cL, L, rfl, hL, hLm, hLo, _⟩, hx⟩
      replace H := H.ext hx; replace hbt := hbt.ext hx; replace hO := hO.ext hx; replace how := how.ext hx
      refine RL.nil ?_
      refine AL.mg 20 (by kernel_rfl) rfl rfl rfl rfl (ld_box rfl hbt rfl) rfl ?_
      refine AL.o 21 (by kernel_rfl) rfl ?_
      refine RL.yes rfl rfl rfl ?_
      -- call stagecoach/stagecoachref11.Same (tmp 28) (tmp 32)
      have hL8 : L.length ≤ 100000 := by rw [← List.length_map (f := Seat.st), hLm]; exact Nat.le_trans hok.len (by decide)
      refine RL.call (rSameG _ aL a cL c L H0 hL.sl hO.sl hL8 (fun s hs => ⟨(hLo s hs).sl, top_le hok hLm s hs⟩) (fun s hs => (how s hs).sl)) rfl rfl ?_
      rintro _ w4 ⟨rfl, hx⟩
      replace H := H.ext hx; replace hbt := hbt.ext hx; replace hO := hO.ext hx; replace how := how.ext hx; replace hL := hL.ext hx; replace hLo := hLo.ext hx
      refine RL.nil ?_
      refine AL.p 22 (by kernel_rfl) rfl (pickT rfl) rfl ?_
      refine AL.p 23 (by kernel_rfl) rfl (asgB rfl) rfl ?_
      refine AL.nil (by kernel_rfl) ?_
      refine ⟨(), Head.intro (by repeat (first | with_reducible exact AgreeOff.refl _ _ | with_reducible exact AgreeOff.mix _ _ _ | refine AgreeOff.look rfl ?_ | refine AgreeOff.mixs rfl ?_)) ⟨bTT (hLm.trans hst.symm) rfl, trivial⟩, H, hbt, trivial⟩
    · refine ⟨_, rfl, ?_⟩
      refine RL.yes rfl rfl rfl ?_
      refine RL.m (ld_box rfl hbt rfl) rfl ?_
      refine RL.nil ?_
      refine AL.o 16 (by kernel_rfl) rfl ?_
      refine RL.yes rfl rfl rfl ?_
      -- call (*stagecoach/group.Group).Seats (tmp 27)
      refine RL.call (gSeats _ B i m G (hT.ext H)) rfl rfl ?_
      rintro v w5 ⟨⟨aL, cL, L, rfl, hL, hLm, hLo, _⟩, hx⟩
      replace H := H.ext hx; replace hbt := hbt.ext hx; replace hO := hO.ext hx; replace how := how.ext hx
      refine RL.nil ?_
      refine AL.o 21 (by kernel_rfl) rfl ?_
      refine RL.yes rfl rfl rfl ?_
      -- call stagecoach/stagecoachref11.Same (tmp 28) (tmp 32)
      have hL8 : L.length ≤ 100000 := by rw [← List.length_map (f := Seat.st), hLm]; exact Nat.le_trans hok.len (by decide)
      refine RL.call (rSameG _ aL a cL c L H0 hL.sl hO.sl hL8 (fun s hs => ⟨(hLo s hs).sl, top_le hok hLm s hs⟩) (fun s hs => (how s hs).sl)) rfl rfl ?_
      rintro _ w6 ⟨rfl, hx⟩
      replace H := H.ext hx; replace hbt := hbt.ext hx; replace hO := hO.ext hx; replace how := how.ext hx; replace hL := hL.ext hx; replace hLo := hLo.ext hx
      refine RL.nil ?_
      refine AL.p 22 (by kernel_rfl) rfl (pickT rfl) rfl ?_
      refine AL.p 23 (by kernel_rfl) rfl (asgB rfl) rfl ?_
      refine AL.nil (by kernel_rfl) ?_
      refine ⟨(), Head.intro (by repeat (first | with_reducible exact AgreeOff.refl _ _ | with_reducible exact AgreeOff.mix _ _ _ | refine AgreeOff.look rfl ?_ | refine AgreeOff.mixs rfl ?_)) ⟨bTT (hLm.trans hst.symm) rfl, trivial⟩, H, hbt, trivial⟩
  rintro _ jc w7 ⟨H, hbt, -⟩
  refine WP.ret ?_
  refine fin1_ret rfl ⟨rfl, H⟩
theorem rangeG_le {l : List Topic} {m : List Mem} (h : checkE l m = 0) : ∀ r ∈ rangeG l m, r.length ≤ 64 := by
  obtain ⟨hl8, hlok, hm8, hmok⟩ := check_ok h
  intro r hr
  obtain ⟨i, hi, rfl⟩ := List.mem_map.1 hr
  have := row_len m i hl8 hlok l.length
  rwa [List.take_length] at this
theorem robinG_le {l : List Topic} {m : List Mem} (h : checkE l m = 0) : ∀ r ∈ robinG l m, r.length ≤ 64 := by
  obtain ⟨hl8, hlok, hm8, hmok⟩ := check_ok h
  intro r hr
  have := allR_le m l (fun t ht => by
    obtain ⟨k, hk, rfl⟩ := List.getElem_of_mem ht
    exact (hlok k hk).1.2.2) r hr
  omega
theorem gvP_len {G : Gs} (nm : ByteArray) (gen : Int) (l : List Topic) : (gvP G nm gen l).length ≤ 100000 := by
  unfold gvP
  split
  · rename_i h
    have hck : checkE l (mems G.S) = 0 := by
      unfold gvE at h
      split at h
      · exact h
      · rename_i h2; exact Classical.not_not.1 h2
    cases e : (giveG G l)[placeN G.S nm]? with
    | none => simp
    | some r =>
      have hr : r ∈ giveG G l := List.mem_of_getElem? e
      unfold giveG giveM at hr
      simp only [Option.getD_some]
      split at hr
      · have := robinG_le hck r hr; omega
      · have := rangeG_le hck r hr; omega
  · simp
theorem tr_lt {B i2 : Nat} {a : Option Addr} {w : World} {G : Gs} (hR : Tr B w i2 a G) : ∀ k, inBlock a k → k < w.heap.size := by
  obtain ⟨c', H, hb, ho, _⟩ := hR.at_
  exact fun k hk => (ho.blk hk).2
theorem box_x2 {B B' i2 b : Nat} {a : Option Addr} {w w' : World} {G' : Gs} {T : TypeId} {cs : List Value} (h : Box B' w b T cs) (hR : Tr B w i2 a G') (h2 : T ≠ 42) (h3 : 31 ≠ T) (k : Upd (XR i2 a) w w') : Box B' w' b T cs := by
  obtain ⟨c', H, hb, ho, _⟩ := hR.at_
  refine h.upd k ?_
  rintro (e | e)
  · exact box_nt h hb h2 e
  · exact ho.box_apart h h3 e
set_option maxRecDepth 20000 in
set_option maxHeartbeats 1600000 in
theorem lStep (w0 : World) (B i m i2 : Nat) (a : Option Addr) (G : Gs) (hT : Tg B w0 i m G) (hR : Tr B w0 i2 a G) (o : GOp) (hl : SlI w0 o.s.ta o.s.topics) :
    Ct Try.prog 19 #[.pointer (some ⟨i, 0, none⟩), .pointer (some ⟨i2, 0, none⟩), .agg (Lies.enc o).toArray] w0 fun v w' => (v = .bool (decide ((0 : Nat) = 0)) ∧ ∃ G' a', Tg B w' i m G' ∧ Tr B w' i2 a' G') ∧ Upd (XS i m i2 a) w0 w' := by
  refine Ct.intro1 Try.func19 Try.ntmps19 rfl rfl (by decide) rfl ?_
  have H : Upd (XS i m i2 a) w0 w0 := Upd.refl _ w0
  have hi2 := hR.lt.1
  have hE := Ext.refl w0
  have hlta : ∀ k, inBlock a k → k < w0.heap.size := tr_lt hR
  have hok := hT.ok
  refine WP.regionS ?_
  refine RL.boxS w0.heap.size H.size rfl rfl ?_
  intro w1 i5 hi5 hx hb5
  replace H := H.ext hx; replace hT := hT.ext hx; replace hR := hR.ext hx; replace hE := hE.ext hx; clear hx
  refine RL.r (asgB rfl) rfl ?_
  refine RL.nil ?_
  refine WP.regionS ?_
  refine RL.r (fa_box rfl) rfl ?_
  refine RL.m (ldS_box rfl hb5 (Nat.le_of_ble_eq_true rfl) rfl) rfl ?_
  -- call stagecoach/stagecoachlaw11.Cut (tmp 20)
  have hs1 := H.size
  refine RL.call (lCut _ o.s (fun h => (hl h).ext hE)) rfl rfl ?_
  rintro v w2 ⟨⟨s, rfl, hcu⟩, hx⟩
  replace H := H.ext hx; replace hb5 := hb5.ext hx; replace hT := hT.ext hx; replace hR := hR.ext hx; replace hE := hE.ext hx
  have hS1 := hcu.own.sl
  refine RL.alloc w0.heap.size H.size rfl rfl ?_
  intro w3 i7 hi7 hx hb7
  have ne5_7 := hb5.ne hi7
  refine RL.storeS rfl hb7 rfl rfl rfl rfl ?_
  intro w4 hu hb7
  replace hx := hx.box hu (Nat.le_of_eq hi7.symm)
  replace H := H.ext hx; replace hb5 := hb5.ext hx; replace hT := hT.ext hx; replace hR := hR.ext hx; replace hcu := hcu.ext hx; replace hS1 := hS1.ext hx; clear hx hu
  refine RL.nil ?_
  refine WP.seq ?_
  refine WP.regionS ?_
  refine RL.r (fa_box rfl) rfl ?_
  refine RL.m (ld_box rfl hb5 rfl) rfl ?_
  refine RL.nil ?_
  refine WP.block ?_
  refine WP.regionS ?_
  refine RL.r (eql rfl rfl) rfl ?_
  refine RL.r (asgB rfl) rfl ?_
  refine RL.nil ?_
  refine WP.cond rfl (fun hc => ?_) (fun hc => ?_)
  · refine WP.regionS ?_
    refine RL.r (mvP rfl) rfl ?_
    refine RL.m (ldS_box rfl hb7 (Nat.le_of_ble_eq_true rfl) rfl) rfl ?_
    refine RL.r (fa_box rfl) rfl ?_
    refine RL.m (ld_box rfl hb5 rfl) rfl ?_
    -- call (*stagecoach/group.Group).Join (tmp 27) (tmp 28) (tmp 30)
    refine RL.call (gJoin _ B i m G hT s o.rb hcu.own.sl (by have := hcu.len; omega)) rfl rfl ?_
    rintro _ w5 ⟨⟨rfl, hT2⟩, hx⟩
    replace H := Upd.upd H hx (fun k _ hk => Or.inl hk); replace hb5 := box_xg hb5 hT (by decide) hx; replace hb7 := box_xg hb7 hT (by decide) hx; replace hR := hR.xg hT hx; replace hcu := hcu.xg hT hx
    replace hT := hT2; clear hT2
    refine RL.r (mvU rfl) rfl ?_
    refine RL.r (ex0 rfl) rfl ?_
    refine RL.r (ex1 rfl) rfl ?_
    refine RL.r (asgI rfl) rfl ?_
    refine RL.r (asgI rfl) rfl ?_
    refine RL.nil ?_
    refine WP.regionS ?_
    refine RL.r (mvP rfl) rfl ?_
    refine RL.m (ldS_box rfl hb7 (Nat.le_of_ble_eq_true rfl) rfl) rfl ?_
    refine RL.r (fa_box rfl) rfl ?_
    refine RL.m (ld_box rfl hb5 rfl) rfl ?_
    -- call (*stagecoach/stagecoachref11.Group).Join (tmp 35) (tmp 36) (tmp 38)
    refine RL.call (rJoin _ B i2 a G hR s o.rb hcu.own.sl (by have := hcu.len; omega) hcu.txt hcu.nm (fun p hp => by have h1 := hcu.own.blk ⟨p, hp, rfl⟩; omega)) rfl rfl ?_
    rintro _ w6 ⟨⟨rfl, a3, hR2⟩, hx⟩
    replace H := Upd.upd H hx (fun k _ hk => Or.inr (Or.inl hk)); replace hb5 := box_x2 hb5 hR (by decide) (by decide) (r1 hx); replace hb7 := hb7.upd hx (fun e => by have h7 := hb7.old; omega); replace hT := hT.xr hR (r1 hx)
    replace hR := hR2; clear hR2
    refine RL.r (mvU rfl) rfl ?_
    refine RL.r (ex0 rfl) rfl ?_
    refine RL.r (ex1 rfl) rfl ?_
    refine RL.r (asgI rfl) rfl ?_
    refine RL.r (asgI rfl) rfl ?_
    refine RL.nil ?_
    refine WP.seq (WP.quiet ?_)
    refine QL.r (mvI rfl) rfl ?_
    refine QL.r (mvI rfl) rfl ?_
    refine QL.r (eql rfl rfl) rfl ?_
    refine QL.r (mvB rfl) rfl ?_
    refine QL.gg (gwT rfl rfl) (fun hg => (mvI rfl).does _) rfl ?_
    refine QL.gg (gwT rfl rfl) (fun hg => (mvI rfl).does _) rfl ?_
    refine QL.gg (gwT rfl rfl) (fun hg => (eql (gs hg rfl) (gs hg rfl)).does _) rfl ?_
    refine QL.r (pickAnd rfl (fun hn => gs hn rfl)) rfl ?_
    refine QL.r (asgB rfl) rfl ?_
    refine QL.nil ?_; intro w7 hx; replace H := H.ext hx; replace hb5 := hb5.ext hx; replace hb7 := hb7.ext hx; replace hT := hT.ext hx; replace hR := hR.ext hx
    refine WP.ret ?_
    refine fin1_ret rfl ⟨⟨bTT ⟨rfl, rfl⟩ rfl, _, _, hT, hR⟩, H⟩
  · refine WP.regionS ?_
    refine RL.r (eql rfl rfl) rfl ?_
    refine RL.r (asgB rfl) rfl ?_
    refine RL.nil ?_
    refine WP.cond rfl (fun hc => ?_) (fun hc => ?_)
    · refine WP.regionS ?_
      refine RL.r (mvP rfl) rfl ?_
      refine RL.r (fa_box rfl) rfl ?_
      refine RL.r (fa_box rfl) rfl ?_
      refine RL.m (ld_box rfl hb7 rfl) rfl ?_
      refine RL.r (fa_box rfl) rfl ?_
      refine RL.m (ld_box rfl hb5 rfl) rfl ?_
      refine RL.r (fa_box rfl) rfl ?_
      refine RL.m (ld_box rfl hb5 rfl) rfl ?_
      -- call (*stagecoach/group.Group).Beat (tmp 52) (tmp 55) (tmp 57) (tmp 59)
      refine RL.call (gBeat _ B i m G hT s.name o.gen o.now) rfl rfl ?_
      rintro _ w8 ⟨⟨rfl, hT2⟩, hx⟩
      replace H := Upd.upd H hx (fun k _ hk => Or.inl hk); replace hb5 := box_xg hb5 hT (by decide) hx; replace hb7 := box_xg hb7 hT (by decide) hx; replace hR := hR.xg hT hx; replace hcu := hcu.xg hT hx
      replace hT := hT2; clear hT2
      refine RL.r (asgI rfl) rfl ?_
      refine RL.nil ?_
      refine WP.regionS ?_
      refine RL.r (mvI rfl) rfl ?_
      refine RL.r (mvP rfl) rfl ?_
      refine RL.r (fa_box rfl) rfl ?_
      refine RL.r (fa_box rfl) rfl ?_
      refine RL.m (ld_box rfl hb7 rfl) rfl ?_
      refine RL.r (fa_box rfl) rfl ?_
      refine RL.m (ld_box rfl hb5 rfl) rfl ?_
      refine RL.r (fa_box rfl) rfl ?_
      refine RL.m (ld_box rfl hb5 rfl) rfl ?_
      -- call (*stagecoach/stagecoachref11.Group).Beat (tmp 62) (tmp 65) (tmp 67) (tmp 69)
      refine RL.call (rBeat _ B i2 a G hR s.name o.gen o.now) rfl rfl ?_
      rintro _ w9 ⟨⟨rfl, hR2⟩, hx⟩
      replace H := Upd.upd H hx (fun k _ hk => Or.inr hk); replace hb5 := box_x2 hb5 hR (by decide) (by decide) hx; replace hb7 := hb7.upd hx (fun e => by have h7 := hb7.old; exact (show i7 = i2 ∨ inBlock a i7 from e).elim (fun e => by omega) (fun e => by have := hlta _ e; omega)); replace hT := hT.xr hR hx
      replace hR := hR2; clear hR2
      refine RL.r (eql rfl rfl) rfl ?_
      refine RL.r (asgB rfl) rfl ?_
      refine RL.nil ?_
      refine WP.ret ?_
      refine fin1_ret rfl ⟨⟨bTT rfl rfl, _, _, hT, hR⟩, H⟩
    · refine WP.regionS ?_
      refine RL.r (eql rfl rfl) rfl ?_
      refine RL.r (asgB rfl) rfl ?_
      refine RL.nil ?_
      refine WP.cond rfl (fun hc => ?_) (fun hc => ?_)
      · refine WP.regionS ?_
        refine RL.r (mvP rfl) rfl ?_
        refine RL.r (fa_box rfl) rfl ?_
        refine RL.r (fa_box rfl) rfl ?_
        refine RL.m (ld_box rfl hb7 rfl) rfl ?_
        refine RL.r (fa_box rfl) rfl ?_
        refine RL.m (ld_box rfl hb5 rfl) rfl ?_
        -- call (*stagecoach/group.Group).Leave (tmp 74) (tmp 77) (tmp 79)
        refine RL.call (gLeave _ B i m G hT s.name o.gen) rfl rfl ?_
        rintro _ w10 ⟨⟨rfl, hT2⟩, hx⟩
        replace H := Upd.upd H hx (fun k _ hk => Or.inl hk); replace hb5 := box_xg hb5 hT (by decide) hx; replace hb7 := box_xg hb7 hT (by decide) hx; replace hR := hR.xg hT hx; replace hcu := hcu.xg hT hx
        replace hT := hT2; clear hT2
        refine RL.r (asgI rfl) rfl ?_
        refine RL.nil ?_
        refine WP.regionS ?_
        refine RL.r (mvI rfl) rfl ?_
        refine RL.r (mvP rfl) rfl ?_
        refine RL.r (fa_box rfl) rfl ?_
        refine RL.r (fa_box rfl) rfl ?_
        refine RL.m (ld_box rfl hb7 rfl) rfl ?_
        refine RL.r (fa_box rfl) rfl ?_
        refine RL.m (ld_box rfl hb5 rfl) rfl ?_
        -- call (*stagecoach/stagecoachref11.Group).Leave (tmp 82) (tmp 85) (tmp 87)
        refine RL.call (rLeave _ B i2 a G hR s.name o.gen) rfl rfl ?_
        rintro _ w11 ⟨⟨rfl, a3, hR2⟩, hx⟩
        replace H := Upd.upd H hx (fun k _ hk => Or.inr (Or.inl hk)); replace hb5 := box_x2 hb5 hR (by decide) (by decide) (r1 hx); replace hb7 := hb7.upd hx (fun e => by have h7 := hb7.old; omega); replace hT := hT.xr hR (r1 hx)
        replace hR := hR2; clear hR2
        refine RL.r (eql rfl rfl) rfl ?_
        refine RL.r (asgB rfl) rfl ?_
        refine RL.nil ?_
        refine WP.ret ?_
        refine fin1_ret rfl ⟨⟨bTT rfl rfl, _, _, hT, hR⟩, H⟩
      · refine WP.regionS ?_
        refine RL.r (eql rfl rfl) rfl ?_
        refine RL.r (asgB rfl) rfl ?_
        refine RL.nil ?_
        refine WP.cond rfl (fun hc => ?_) (fun hc => ?_)
        · refine WP.regionS ?_
          refine RL.r (mvP rfl) rfl ?_
          refine RL.r (fa_box rfl) rfl ?_
          refine RL.m (ld_box rfl hb5 rfl) rfl ?_
          -- call (*stagecoach/group.Group).Expire (tmp 92) (tmp 94)
          refine RL.call (gExpire _ B i m G hT o.now) rfl rfl ?_
          rintro v w12 ⟨⟨⟨a12, c12, rfl, hX1⟩, hT2⟩, hx⟩
          replace H := Upd.upd H hx (fun k _ hk => Or.inl hk); replace hb5 := box_xg hb5 hT (by decide) hx; replace hb7 := box_xg hb7 hT (by decide) hx; replace hR := hR.xg hT hx; replace hcu := hcu.xg hT hx
          replace hT := hT2; clear hT2
          refine RL.r (asgL rfl) rfl ?_
          refine RL.nil ?_
          refine WP.regionS ?_
          refine RL.r (mvL rfl) rfl ?_
          refine RL.r (mvP rfl) rfl ?_
          refine RL.r (fa_box rfl) rfl ?_
          refine RL.m (ld_box rfl hb5 rfl) rfl ?_
          -- call (*stagecoach/stagecoachref11.Group).Expire (tmp 97) (tmp 99)
          refine RL.call (rExpire _ B i2 a G hR o.now) rfl rfl ?_
          rintro v w13 ⟨⟨⟨a13, c13, rfl, hX2⟩, a3, hR2⟩, hx⟩
          replace H := Upd.upd H hx (fun k _ hk => Or.inr (Or.inl hk)); replace hb5 := box_x2 hb5 hR (by decide) (by decide) (r1 hx); replace hb7 := hb7.upd hx (fun e => by have h7 := hb7.old; omega); replace hT := hT.xr hR (r1 hx); replace hX1 := own_xr hX1 hR (by decide) (by decide) (r1 hx)
          replace hR := hR2; clear hR2
          -- call stagecoach/stagecoachref04.Texts (tmp 96) (tmp 100)
          have hxl : (expL G o.now).length ≤ 100000 := by
            unfold expL
            rw [List.length_map]
            exact Nat.le_trans (List.length_filter_le _ _) (Nat.le_trans hok.len (by decide))
          refine RL.call (rTexts _ _ _ _ _ _ _ hX1.sl hX2.sl hxl) rfl rfl ?_
          rintro _ w14 ⟨rfl, hx⟩
          replace H := H.ext hx; replace hb5 := hb5.ext hx; replace hb7 := hb7.ext hx; replace hT := hT.ext hx; replace hR := hR.ext hx; replace hX1 := hX1.ext hx; replace hX2 := hX2.ext hx
          refine RL.r (asgB rfl) rfl ?_
          refine RL.nil ?_
          refine WP.ret ?_
          refine fin1_ret rfl ⟨⟨bTT rfl rfl, _, _, hT, hR⟩, H⟩
        · refine WP.regionS ?_
          refine RL.r (eql rfl rfl) rfl ?_
          refine RL.r (asgB rfl) rfl ?_
          refine RL.nil ?_
          refine WP.cond rfl (fun hc => ?_) (fun hc => ?_)
          · refine WP.seq ?_
            refine WP.cutN (α := Option Addr × Nat) [15, 16, 104, 105, 106, 107, 108, 109, 110, 111, 112, 113, 114] (fun x => [(15, .slice x.1 (gvP G s.name o.gen tp4).length x.2), (16, .int .i64 (gvE G s.name o.gen tp4))]) (fun x w' => Upd (XS i m i2 a) w0 w' ∧ Box w0.heap.size w' i5 44 (Lies.enc o) ∧ Box w0.heap.size w' i7 31 (Lies.enc s) ∧ Tg B w' i m G ∧ Tr B w' i2 a G ∧ Sl w' x.1 (gvP G s.name o.gen tp4) ∧ CutO w1.heap.size w' s) ?_ ?_
            · refine WP.any ?_
              intro w15 hx; replace H := H.ext hx; replace hb5 := hb5.ext hx; replace hb7 := hb7.ext hx; replace hT := hT.ext hx; replace hR := hR.ext hx; replace hcu := hcu.ext hx; replace hS1 := hS1.ext hx
              refine AL.p 0 (by kernel_rfl) rfl (mvP rfl) rfl ?_
              refine AL.p 1 (by kernel_rfl) rfl (fa_box rfl) rfl ?_
              refine AL.p 2 (by kernel_rfl) rfl (fa_box rfl) rfl ?_
              refine AL.p 4 (by kernel_rfl) rfl (fa_box rfl) rfl ?_
              refine AL.all (rs := [3, 5, 6]) (by kernel_rfl) rfl ?_
              rintro i hi; simp only [List.mem_cons, List.not_mem_nil, or_false] at hi; rcases hi with rfl | rfl | rfl
              · refine ⟨_, rfl, ?_⟩
                refine RL.m (ld_box rfl hb7 rfl) rfl ?_
                refine RL.nil ?_
                refine AL.all (rs := [5, 6]) (by kernel_rfl) rfl ?_
                rintro i hi; simp only [List.mem_cons, List.not_mem_nil, or_false] at hi; rcases hi with rfl | rfl
                · refine ⟨_, rfl, ?_⟩
                  refine RL.m (ld_box rfl hb5 rfl) rfl ?_
                  refine RL.nil ?_
                  refine AL.o 6 (by kernel_rfl) rfl ?_
                  -- call stagecoach/stagecoachlaw11.topic 
                  refine RL.call (lTopic _) rfl rfl ?_
                  rintro v w16 ⟨⟨it, rfl, hS⟩, hx⟩
                  replace H := H.ext hx; replace hb5 := hb5.ext hx; replace hb7 := hb7.ext hx; replace hT := hT.ext hx; replace hR := hR.ext hx; replace hcu := hcu.ext hx; replace hS1 := hS1.ext hx
                  refine RL.nil ?_
                  refine AL.o 7 (by kernel_rfl) rfl ?_
                  -- call (*stagecoach/group.Group).Assigned (tmp 105) (tmp 108) (tmp 110) (tmp 111)
                  refine RL.call (gAssigned _ B i m G hT s.name o.gen _ 1 tp4 hS) rfl rfl ?_
                  rintro v w17 ⟨⟨aP, cP, rfl, hP⟩, hx⟩
                  replace H := H.ext hx; replace hb5 := hb5.ext hx; replace hb7 := hb7.ext hx; replace hT := hT.ext hx; replace hR := hR.ext hx; replace hcu := hcu.ext hx; replace hS1 := hS1.ext hx; replace hS := hS.ext hx
                  refine RL.nil ?_
                  refine AL.p 8 (by kernel_rfl) rfl (mvU rfl) rfl ?_
                  refine AL.p 9 (by kernel_rfl) rfl (ex0 rfl) rfl ?_
                  refine AL.p 10 (by kernel_rfl) rfl (ex1 rfl) rfl ?_
                  refine AL.p 11 (by kernel_rfl) rfl (asgL rfl) rfl ?_
                  refine AL.p 12 (by kernel_rfl) rfl (asgI rfl) rfl ?_
                  refine AL.nil (by kernel_rfl) ?_
                  refine ⟨(aP, cP), Head.intro (by repeat (first | with_reducible exact AgreeOff.refl _ _ | with_reducible exact AgreeOff.mix _ _ _ | refine AgreeOff.look rfl ?_ | refine AgreeOff.mixs rfl ?_)) ⟨rfl, rfl, trivial⟩, H, hb5, hb7, hT, hR, hP.sl, hcu⟩
                · refine ⟨_, rfl, ?_⟩
                  -- call stagecoach/stagecoachlaw11.topic 
                  refine RL.call (lTopic _) rfl rfl ?_
                  rintro v w18 ⟨⟨it, rfl, hS⟩, hx⟩
                  replace H := H.ext hx; replace hb5 := hb5.ext hx; replace hb7 := hb7.ext hx; replace hT := hT.ext hx; replace hR := hR.ext hx; replace hcu := hcu.ext hx; replace hS1 := hS1.ext hx
                  refine RL.nil ?_
                  refine AL.m 5 (by kernel_rfl) rfl (ld_box rfl hb5 rfl) rfl ?_
                  refine AL.o 7 (by kernel_rfl) rfl ?_
                  -- call (*stagecoach/group.Group).Assigned (tmp 105) (tmp 108) (tmp 110) (tmp 111)
                  refine RL.call (gAssigned _ B i m G hT s.name o.gen _ 1 tp4 hS) rfl rfl ?_
                  rintro v w19 ⟨⟨aP, cP, rfl, hP⟩, hx⟩
                  replace H := H.ext hx; replace hb5 := hb5.ext hx; replace hb7 := hb7.ext hx; replace hT := hT.ext hx; replace hR := hR.ext hx; replace hcu := hcu.ext hx; replace hS1 := hS1.ext hx; replace hS := hS.ext hx
                  refine RL.nil ?_
                  refine AL.p 8 (by kernel_rfl) rfl (mvU rfl) rfl ?_
                  refine AL.p 9 (by kernel_rfl) rfl (ex0 rfl) rfl ?_
                  refine AL.p 10 (by kernel_rfl) rfl (ex1 rfl) rfl ?_
                  refine AL.p 11 (by kernel_rfl) rfl (asgL rfl) rfl ?_
                  refine AL.p 12 (by kernel_rfl) rfl (asgI rfl) rfl ?_
                  refine AL.nil (by kernel_rfl) ?_
                  refine ⟨(aP, cP), Head.intro (by repeat (first | with_reducible exact AgreeOff.refl _ _ | with_reducible exact AgreeOff.mix _ _ _ | refine AgreeOff.look rfl ?_ | refine AgreeOff.mixs rfl ?_)) ⟨rfl, rfl, trivial⟩, H, hb5, hb7, hT, hR, hP.sl, hcu⟩
              · refine ⟨_, rfl, ?_⟩
                refine RL.m (ld_box rfl hb5 rfl) rfl ?_
                refine RL.nil ?_
                refine AL.all (rs := [3, 6]) (by kernel_rfl) rfl ?_
                rintro i hi; simp only [List.mem_cons, List.not_mem_nil, or_false] at hi; rcases hi with rfl | rfl
                · refine ⟨_, rfl, ?_⟩
                  refine RL.m (ld_box rfl hb7 rfl) rfl ?_
                  refine RL.nil ?_
                  refine AL.o 6 (by kernel_rfl) rfl ?_
                  -- call stagecoach/stagecoachlaw11.topic 
                  refine RL.call (lTopic _) rfl rfl ?_
                  rintro v w20 ⟨⟨it, rfl, hS⟩, hx⟩
                  replace H := H.ext hx; replace hb5 := hb5.ext hx; replace hb7 := hb7.ext hx; replace hT := hT.ext hx; replace hR := hR.ext hx; replace hcu := hcu.ext hx; replace hS1 := hS1.ext hx
                  refine RL.nil ?_
                  refine AL.o 7 (by kernel_rfl) rfl ?_
                  -- call (*stagecoach/group.Group).Assigned (tmp 105) (tmp 108) (tmp 110) (tmp 111)
                  refine RL.call (gAssigned _ B i m G hT s.name o.gen _ 1 tp4 hS) rfl rfl ?_
                  rintro v w21 ⟨⟨aP, cP, rfl, hP⟩, hx⟩
                  replace H := H.ext hx; replace hb5 := hb5.ext hx; replace hb7 := hb7.ext hx; replace hT := hT.ext hx; replace hR := hR.ext hx; replace hcu := hcu.ext hx; replace hS1 := hS1.ext hx; replace hS := hS.ext hx
                  refine RL.nil ?_
                  refine AL.p 8 (by kernel_rfl) rfl (mvU rfl) rfl ?_
                  refine AL.p 9 (by kernel_rfl) rfl (ex0 rfl) rfl ?_
                  refine AL.p 10 (by kernel_rfl) rfl (ex1 rfl) rfl ?_
                  refine AL.p 11 (by kernel_rfl) rfl (asgL rfl) rfl ?_
                  refine AL.p 12 (by kernel_rfl) rfl (asgI rfl) rfl ?_
                  refine AL.nil (by kernel_rfl) ?_
                  refine ⟨(aP, cP), Head.intro (by repeat (first | with_reducible exact AgreeOff.refl _ _ | with_reducible exact AgreeOff.mix _ _ _ | refine AgreeOff.look rfl ?_ | refine AgreeOff.mixs rfl ?_)) ⟨rfl, rfl, trivial⟩, H, hb5, hb7, hT, hR, hP.sl, hcu⟩
                · refine ⟨_, rfl, ?_⟩
                  -- call stagecoach/stagecoachlaw11.topic 
                  refine RL.call (lTopic _) rfl rfl ?_
                  rintro v w22 ⟨⟨it, rfl, hS⟩, hx⟩
                  replace H := H.ext hx; replace hb5 := hb5.ext hx; replace hb7 := hb7.ext hx; replace hT := hT.ext hx; replace hR := hR.ext hx; replace hcu := hcu.ext hx; replace hS1 := hS1.ext hx
                  refine RL.nil ?_
                  refine AL.m 3 (by kernel_rfl) rfl (ld_box rfl hb7 rfl) rfl ?_
                  refine AL.o 7 (by kernel_rfl) rfl ?_
                  -- call (*stagecoach/group.Group).Assigned (tmp 105) (tmp 108) (tmp 110) (tmp 111)
                  refine RL.call (gAssigned _ B i m G hT s.name o.gen _ 1 tp4 hS) rfl rfl ?_
                  rintro v w23 ⟨⟨aP, cP, rfl, hP⟩, hx⟩
                  replace H := H.ext hx; replace hb5 := hb5.ext hx; replace hb7 := hb7.ext hx; replace hT := hT.ext hx; replace hR := hR.ext hx; replace hcu := hcu.ext hx; replace hS1 := hS1.ext hx; replace hS := hS.ext hx
                  refine RL.nil ?_
                  refine AL.p 8 (by kernel_rfl) rfl (mvU rfl) rfl ?_
                  refine AL.p 9 (by kernel_rfl) rfl (ex0 rfl) rfl ?_
                  refine AL.p 10 (by kernel_rfl) rfl (ex1 rfl) rfl ?_
                  refine AL.p 11 (by kernel_rfl) rfl (asgL rfl) rfl ?_
                  refine AL.p 12 (by kernel_rfl) rfl (asgI rfl) rfl ?_
                  refine AL.nil (by kernel_rfl) ?_
                  refine ⟨(aP, cP), Head.intro (by repeat (first | with_reducible exact AgreeOff.refl _ _ | with_reducible exact AgreeOff.mix _ _ _ | refine AgreeOff.look rfl ?_ | refine AgreeOff.mixs rfl ?_)) ⟨rfl, rfl, trivial⟩, H, hb5, hb7, hT, hR, hP.sl, hcu⟩
              · refine ⟨_, rfl, ?_⟩
                -- call stagecoach/stagecoachlaw11.topic 
                refine RL.call (lTopic _) rfl rfl ?_
                rintro v w24 ⟨⟨it, rfl, hS⟩, hx⟩
                replace H := H.ext hx; replace hb5 := hb5.ext hx; replace hb7 := hb7.ext hx; replace hT := hT.ext hx; replace hR := hR.ext hx; replace hcu := hcu.ext hx; replace hS1 := hS1.ext hx
                refine RL.nil ?_
                refine AL.m 3 (by kernel_rfl) rfl (ld_box rfl hb7 rfl) rfl ?_
                refine AL.m 5 (by kernel_rfl) rfl (ld_box rfl hb5 rfl) rfl ?_
                refine AL.o 7 (by kernel_rfl) rfl ?_
                -- call (*stagecoach/group.Group).Assigned (tmp 105) (tmp 108) (tmp 110) (tmp 111)
                refine RL.call (gAssigned _ B i m G hT s.name o.gen _ 1 tp4 hS) rfl rfl ?_
                rintro v w25 ⟨⟨aP, cP, rfl, hP⟩, hx⟩
                replace H := H.ext hx; replace hb5 := hb5.ext hx; replace hb7 := hb7.ext hx; replace hT := hT.ext hx; replace hR := hR.ext hx; replace hcu := hcu.ext hx; replace hS1 := hS1.ext hx; replace hS := hS.ext hx
                refine RL.nil ?_
                refine AL.p 8 (by kernel_rfl) rfl (mvU rfl) rfl ?_
                refine AL.p 9 (by kernel_rfl) rfl (ex0 rfl) rfl ?_
                refine AL.p 10 (by kernel_rfl) rfl (ex1 rfl) rfl ?_
                refine AL.p 11 (by kernel_rfl) rfl (asgL rfl) rfl ?_
                refine AL.p 12 (by kernel_rfl) rfl (asgI rfl) rfl ?_
                refine AL.nil (by kernel_rfl) ?_
                refine ⟨(aP, cP), Head.intro (by repeat (first | with_reducible exact AgreeOff.refl _ _ | with_reducible exact AgreeOff.mix _ _ _ | refine AgreeOff.look rfl ?_ | refine AgreeOff.mixs rfl ?_)) ⟨rfl, rfl, trivial⟩, H, hb5, hb7, hT, hR, hP.sl, hcu⟩
            rintro x1 jc w26 ⟨H, hb5, hb7, hT, hR, hS1, hcu⟩
            refine WP.seq ?_
            refine WP.cutN (α := Option Addr × Nat) [17, 18, 115, 116, 117, 118, 119, 120, 121, 122, 123, 124, 125] (fun x => [(17, .slice x.1 (gvP G s.name o.gen tp4).length x.2), (18, .int .i64 (gvE G s.name o.gen tp4))]) (fun x w' => Upd (XS i m i2 a) w0 w' ∧ Box w0.heap.size w' i5 44 (Lies.enc o) ∧ Box w0.heap.size w' i7 31 (Lies.enc s) ∧ Tg B w' i m G ∧ Tr B w' i2 a G ∧ Sl w' x1.1 (gvP G s.name o.gen tp4) ∧ Sl w' x.1 (gvP G s.name o.gen tp4) ∧ CutO w1.heap.size w' s) ?_ ?_
            · refine WP.any ?_
              intro w27 hx; replace H := H.ext hx; replace hb5 := hb5.ext hx; replace hb7 := hb7.ext hx; replace hT := hT.ext hx; replace hR := hR.ext hx; replace hcu := hcu.ext hx; replace hS1 := hS1.ext hx
              refine AL.p 0 (by kernel_rfl) rfl (mvP rfl) rfl ?_
              refine AL.p 1 (by kernel_rfl) rfl (fa_box rfl) rfl ?_
              refine AL.p 2 (by kernel_rfl) rfl (fa_box rfl) rfl ?_
              refine AL.p 4 (by kernel_rfl) rfl (fa_box rfl) rfl ?_
              refine AL.all (rs := [3, 5, 6]) (by kernel_rfl) rfl ?_
              rintro i hi; simp only [List.mem_cons, List.not_mem_nil, or_false] at hi; rcases hi with rfl | rfl | rfl
              · refine ⟨_, rfl, ?_⟩
                refine RL.m (ld_box rfl hb7 rfl) rfl ?_
                refine RL.nil ?_
                refine AL.all (rs := [5, 6]) (by kernel_rfl) rfl ?_
                rintro i hi; simp only [List.mem_cons, List.not_mem_nil, or_false] at hi; rcases hi with rfl | rfl
                · refine ⟨_, rfl, ?_⟩
                  refine RL.m (ld_box rfl hb5 rfl) rfl ?_
                  refine RL.nil ?_
                  refine AL.o 6 (by kernel_rfl) rfl ?_
                  -- call stagecoach/stagecoachlaw11.topic 
                  refine RL.call (lTopic _) rfl rfl ?_
                  rintro v w28 ⟨⟨it, rfl, hS⟩, hx⟩
                  replace H := H.ext hx; replace hb5 := hb5.ext hx; replace hb7 := hb7.ext hx; replace hT := hT.ext hx; replace hR := hR.ext hx; replace hcu := hcu.ext hx; replace hS1 := hS1.ext hx
                  refine RL.nil ?_
                  refine AL.o 7 (by kernel_rfl) rfl ?_
                  -- call (*stagecoach/stagecoachref11.Group).Assigned (tmp 116) (tmp 119) (tmp 121) (tmp 122)
                  refine RL.call (rAssigned _ B i2 a G hR s.name o.gen _ 1 tp4 hS) rfl rfl ?_
                  rintro v w29 ⟨⟨aP, cP, rfl, hP⟩, hx⟩
                  replace H := H.ext hx; replace hb5 := hb5.ext hx; replace hb7 := hb7.ext hx; replace hT := hT.ext hx; replace hR := hR.ext hx; replace hcu := hcu.ext hx; replace hS1 := hS1.ext hx; replace hS := hS.ext hx
                  refine RL.nil ?_
                  refine AL.p 8 (by kernel_rfl) rfl (mvU rfl) rfl ?_
                  refine AL.p 9 (by kernel_rfl) rfl (ex0 rfl) rfl ?_
                  refine AL.p 10 (by kernel_rfl) rfl (ex1 rfl) rfl ?_
                  refine AL.p 11 (by kernel_rfl) rfl (asgL rfl) rfl ?_
                  refine AL.p 12 (by kernel_rfl) rfl (asgI rfl) rfl ?_
                  refine AL.nil (by kernel_rfl) ?_
                  refine ⟨(aP, cP), Head.intro (by repeat (first | with_reducible exact AgreeOff.refl _ _ | with_reducible exact AgreeOff.mix _ _ _ | refine AgreeOff.look rfl ?_ | refine AgreeOff.mixs rfl ?_)) ⟨rfl, rfl, trivial⟩, H, hb5, hb7, hT, hR, hS1, hP, hcu⟩
                · refine ⟨_, rfl, ?_⟩
                  -- call stagecoach/stagecoachlaw11.topic 
                  refine RL.call (lTopic _) rfl rfl ?_
                  rintro v w30 ⟨⟨it, rfl, hS⟩, hx⟩
                  replace H := H.ext hx; replace hb5 := hb5.ext hx; replace hb7 := hb7.ext hx; replace hT := hT.ext hx; replace hR := hR.ext hx; replace hcu := hcu.ext hx; replace hS1 := hS1.ext hx
                  refine RL.nil ?_
                  refine AL.m 5 (by kernel_rfl) rfl (ld_box rfl hb5 rfl) rfl ?_
                  refine AL.o 7 (by kernel_rfl) rfl ?_
                  -- call (*stagecoach/stagecoachref11.Group).Assigned (tmp 116) (tmp 119) (tmp 121) (tmp 122)
                  refine RL.call (rAssigned _ B i2 a G hR s.name o.gen _ 1 tp4 hS) rfl rfl ?_
                  rintro v w31 ⟨⟨aP, cP, rfl, hP⟩, hx⟩
                  replace H := H.ext hx; replace hb5 := hb5.ext hx; replace hb7 := hb7.ext hx; replace hT := hT.ext hx; replace hR := hR.ext hx; replace hcu := hcu.ext hx; replace hS1 := hS1.ext hx; replace hS := hS.ext hx
                  refine RL.nil ?_
                  refine AL.p 8 (by kernel_rfl) rfl (mvU rfl) rfl ?_
                  refine AL.p 9 (by kernel_rfl) rfl (ex0 rfl) rfl ?_
                  refine AL.p 10 (by kernel_rfl) rfl (ex1 rfl) rfl ?_
                  refine AL.p 11 (by kernel_rfl) rfl (asgL rfl) rfl ?_
                  refine AL.p 12 (by kernel_rfl) rfl (asgI rfl) rfl ?_
                  refine AL.nil (by kernel_rfl) ?_
                  refine ⟨(aP, cP), Head.intro (by repeat (first | with_reducible exact AgreeOff.refl _ _ | with_reducible exact AgreeOff.mix _ _ _ | refine AgreeOff.look rfl ?_ | refine AgreeOff.mixs rfl ?_)) ⟨rfl, rfl, trivial⟩, H, hb5, hb7, hT, hR, hS1, hP, hcu⟩
              · refine ⟨_, rfl, ?_⟩
                refine RL.m (ld_box rfl hb5 rfl) rfl ?_
                refine RL.nil ?_
                refine AL.all (rs := [3, 6]) (by kernel_rfl) rfl ?_
                rintro i hi; simp only [List.mem_cons, List.not_mem_nil, or_false] at hi; rcases hi with rfl | rfl
                · refine ⟨_, rfl, ?_⟩
                  refine RL.m (ld_box rfl hb7 rfl) rfl ?_
                  refine RL.nil ?_
                  refine AL.o 6 (by kernel_rfl) rfl ?_
                  -- call stagecoach/stagecoachlaw11.topic 
                  refine RL.call (lTopic _) rfl rfl ?_
                  rintro v w32 ⟨⟨it, rfl, hS⟩, hx⟩
                  replace H := H.ext hx; replace hb5 := hb5.ext hx; replace hb7 := hb7.ext hx; replace hT := hT.ext hx; replace hR := hR.ext hx; replace hcu := hcu.ext hx; replace hS1 := hS1.ext hx
                  refine RL.nil ?_
                  refine AL.o 7 (by kernel_rfl) rfl ?_
                  -- call (*stagecoach/stagecoachref11.Group).Assigned (tmp 116) (tmp 119) (tmp 121) (tmp 122)
                  refine RL.call (rAssigned _ B i2 a G hR s.name o.gen _ 1 tp4 hS) rfl rfl ?_
                  rintro v w33 ⟨⟨aP, cP, rfl, hP⟩, hx⟩
                  replace H := H.ext hx; replace hb5 := hb5.ext hx; replace hb7 := hb7.ext hx; replace hT := hT.ext hx; replace hR := hR.ext hx; replace hcu := hcu.ext hx; replace hS1 := hS1.ext hx; replace hS := hS.ext hx
                  refine RL.nil ?_
                  refine AL.p 8 (by kernel_rfl) rfl (mvU rfl) rfl ?_
                  refine AL.p 9 (by kernel_rfl) rfl (ex0 rfl) rfl ?_
                  refine AL.p 10 (by kernel_rfl) rfl (ex1 rfl) rfl ?_
                  refine AL.p 11 (by kernel_rfl) rfl (asgL rfl) rfl ?_
                  refine AL.p 12 (by kernel_rfl) rfl (asgI rfl) rfl ?_
                  refine AL.nil (by kernel_rfl) ?_
                  refine ⟨(aP, cP), Head.intro (by repeat (first | with_reducible exact AgreeOff.refl _ _ | with_reducible exact AgreeOff.mix _ _ _ | refine AgreeOff.look rfl ?_ | refine AgreeOff.mixs rfl ?_)) ⟨rfl, rfl, trivial⟩, H, hb5, hb7, hT, hR, hS1, hP, hcu⟩
                · refine ⟨_, rfl, ?_⟩
                  -- call stagecoach/stagecoachlaw11.topic 
                  refine RL.call (lTopic _) rfl rfl ?_
                  rintro v w34 ⟨⟨it, rfl, hS⟩, hx⟩
                  replace H := H.ext hx; replace hb5 := hb5.ext hx; replace hb7 := hb7.ext hx; replace hT := hT.ext hx; replace hR := hR.ext hx; replace hcu := hcu.ext hx; replace hS1 := hS1.ext hx
                  refine RL.nil ?_
                  refine AL.m 3 (by kernel_rfl) rfl (ld_box rfl hb7 rfl) rfl ?_
                  refine AL.o 7 (by kernel_rfl) rfl ?_
                  -- call (*stagecoach/stagecoachref11.Group).Assigned (tmp 116) (tmp 119) (tmp 121) (tmp 122)
                  refine RL.call (rAssigned _ B i2 a G hR s.name o.gen _ 1 tp4 hS) rfl rfl ?_
                  rintro v w35 ⟨⟨aP, cP, rfl, hP⟩, hx⟩
                  replace H := H.ext hx; replace hb5 := hb5.ext hx; replace hb7 := hb7.ext hx; replace hT := hT.ext hx; replace hR := hR.ext hx; replace hcu := hcu.ext hx; replace hS1 := hS1.ext hx; replace hS := hS.ext hx
                  refine RL.nil ?_
                  refine AL.p 8 (by kernel_rfl) rfl (mvU rfl) rfl ?_
                  refine AL.p 9 (by kernel_rfl) rfl (ex0 rfl) rfl ?_
                  refine AL.p 10 (by kernel_rfl) rfl (ex1 rfl) rfl ?_
                  refine AL.p 11 (by kernel_rfl) rfl (asgL rfl) rfl ?_
                  refine AL.p 12 (by kernel_rfl) rfl (asgI rfl) rfl ?_
                  refine AL.nil (by kernel_rfl) ?_
                  refine ⟨(aP, cP), Head.intro (by repeat (first | with_reducible exact AgreeOff.refl _ _ | with_reducible exact AgreeOff.mix _ _ _ | refine AgreeOff.look rfl ?_ | refine AgreeOff.mixs rfl ?_)) ⟨rfl, rfl, trivial⟩, H, hb5, hb7, hT, hR, hS1, hP, hcu⟩
              · refine ⟨_, rfl, ?_⟩
                -- call stagecoach/stagecoachlaw11.topic 
                refine RL.call (lTopic _) rfl rfl ?_
                rintro v w36 ⟨⟨it, rfl, hS⟩, hx⟩
                replace H := H.ext hx; replace hb5 := hb5.ext hx; replace hb7 := hb7.ext hx; replace hT := hT.ext hx; replace hR := hR.ext hx; replace hcu := hcu.ext hx; replace hS1 := hS1.ext hx
                refine RL.nil ?_
                refine AL.m 3 (by kernel_rfl) rfl (ld_box rfl hb7 rfl) rfl ?_
                refine AL.m 5 (by kernel_rfl) rfl (ld_box rfl hb5 rfl) rfl ?_
                refine AL.o 7 (by kernel_rfl) rfl ?_
                -- call (*stagecoach/stagecoachref11.Group).Assigned (tmp 116) (tmp 119) (tmp 121) (tmp 122)
                refine RL.call (rAssigned _ B i2 a G hR s.name o.gen _ 1 tp4 hS) rfl rfl ?_
                rintro v w37 ⟨⟨aP, cP, rfl, hP⟩, hx⟩
                replace H := H.ext hx; replace hb5 := hb5.ext hx; replace hb7 := hb7.ext hx; replace hT := hT.ext hx; replace hR := hR.ext hx; replace hcu := hcu.ext hx; replace hS1 := hS1.ext hx; replace hS := hS.ext hx
                refine RL.nil ?_
                refine AL.p 8 (by kernel_rfl) rfl (mvU rfl) rfl ?_
                refine AL.p 9 (by kernel_rfl) rfl (ex0 rfl) rfl ?_
                refine AL.p 10 (by kernel_rfl) rfl (ex1 rfl) rfl ?_
                refine AL.p 11 (by kernel_rfl) rfl (asgL rfl) rfl ?_
                refine AL.p 12 (by kernel_rfl) rfl (asgI rfl) rfl ?_
                refine AL.nil (by kernel_rfl) ?_
                refine ⟨(aP, cP), Head.intro (by repeat (first | with_reducible exact AgreeOff.refl _ _ | with_reducible exact AgreeOff.mix _ _ _ | refine AgreeOff.look rfl ?_ | refine AgreeOff.mixs rfl ?_)) ⟨rfl, rfl, trivial⟩, H, hb5, hb7, hT, hR, hS1, hP, hcu⟩
            rintro x2 jc w38 ⟨H, hb5, hb7, hT, hR, hS1, hS2, hcu⟩
            refine WP.seq (WP.quiet ?_)
            refine QL.r (mvL rfl) rfl ?_
            refine QL.r (mvL rfl) rfl ?_
            -- call stagecoach/stagecoachref04.Parts (tmp 126) (tmp 127)
            refine QL.call (fun w' hw' => rParts w' x1.1 x2.1 x1.2 x2.2 _ _ (hS1.ext hw') (hS2.ext hw') (gvP_len s.name o.gen tp4)) rfl rfl ?_
            refine QL.r (mvB rfl) rfl ?_
            refine QL.gg (gwT rfl rfl) (fun hg => (mvI rfl).does _) rfl ?_
            refine QL.gg (gwT rfl rfl) (fun hg => (mvI rfl).does _) rfl ?_
            refine QL.gg (gwT rfl rfl) (fun hg => (eql (gs hg rfl) (gs hg rfl)).does _) rfl ?_
            refine QL.r (pickAnd rfl (fun hn => gs hn rfl)) rfl ?_
            refine QL.r (asgB rfl) rfl ?_
            refine QL.nil ?_; intro w40 hx; replace H := H.ext hx; replace hb5 := hb5.ext hx; replace hb7 := hb7.ext hx; replace hT := hT.ext hx; replace hR := hR.ext hx; replace hcu := hcu.ext hx; replace hS1 := hS1.ext hx
            refine WP.ret ?_
            refine fin1_ret rfl ⟨⟨bTT ⟨rfl, rfl⟩ rfl, _, _, hT, hR⟩, H⟩
          · refine WP.skip ?_
            refine WP.regionS ?_
            refine RL.r (asgB rfl) rfl ?_
            refine RL.nil ?_
            refine WP.ret ?_
            refine fin1_ret rfl ⟨⟨rfl, _, _, hT, hR⟩, H⟩
end Go.Proofs.Ytlkpgeopcdhgjaa
