/-
  The walks of a group's Assigned.
-/
import Derived.Test.YtlkpgeopcdhgjaaGrp5
set_option linter.unusedVariables false
namespace Go.Proofs.Ytlkpgeopcdhgjaa
open Go Go.Eng Go.RowKit
def memOf (s : St) : Mem := ⟨s.name, none, 0, s.topics⟩
def mems (S : List St) : List Mem := S.map memOf
/-- the same members, wherever their topics lie -/
def sameM (m m' : List Mem) : Prop := m.map (fun x => (x.name, x.topics)) = m'.map (fun x => (x.name, x.topics))
theorem sameM.len {m m' : List Mem} (h : sameM m m') : m.length = m'.length := by simpa using congrArg List.length h
theorem sameM.at_ {m m' : List Mem} (h : sameM m m') {i : Nat} (h1 : i < m.length) (h2 : i < m'.length) : m[i].name = m'[i].name ∧ m[i].topics = m'[i].topics := by
  have := congrArg (fun l => l[i]?) h
  simp only [List.getElem?_map, List.getElem?_eq_getElem h1, List.getElem?_eq_getElem h2, Option.map_some, Option.some.injEq, Prod.mk.injEq] at this
  exact this
theorem sameM.wants {m m' : List Mem} (h : sameM m m') : wantsAt m = wantsAt m' := by
  funext i t
  unfold wantsAt
  apply propext
  have hl := h.len
  constructor
  · rintro ⟨h1, h2⟩
    have h3 : i < m'.length := by omega
    exact ⟨h3, by unfold Mem.has at *; rwa [← (h.at_ h1 h3).2]⟩
  · rintro ⟨h1, h2⟩
    have h3 : i < m.length := by omega
    exact ⟨h3, by unfold Mem.has at *; rwa [(h.at_ h3 h1).2]⟩
theorem ahead_eq (m : List Mem) (n : Nat) (t : ByteArray) : ahead m n t = ((m.map fun x => (x.name, x.topics)).take n).countP fun x => decide (t ∈ x.2) := by
  unfold ahead
  rw [← List.map_take, List.countP_map]
  apply List.countP_congr
  intro x _
  rw [decide_eq_true_iff]
  show t ∈ x.topics ↔ decide (t ∈ x.topics) = true
  rw [decide_eq_true_iff]
theorem sameM.ahead {m m' : List Mem} (h : sameM m m') : ahead m = ahead m' := by
  funext n t
  rw [ahead_eq, ahead_eq, h]
theorem sameM.range {m m' : List Mem} (h : sameM m m') (l : List Topic) : rangeG l m = rangeG l m' := by
  unfold rangeG
  rw [h.len]
  apply List.map_congr_left
  intro i _
  unfold rangeRow
  congr 1
  funext t
  unfold part1
  simp only [h.wants, h.ahead, h.len]
theorem sameM.robin {m m' : List Mem} (h : sameM m m') (l : List Topic) : robinG l m = robinG l m' := by
  have h1 : nxt m = nxt m' := by
    funext t p
    unfold nxt
    simp only [h.wants, h.len]
  have h2 : stepR m = stepR m' := by
    funext t s n
    unfold stepR
    rw [h1]
  have h3 : topR m = topR m' := by
    funext s t n
    unfold topR
    rw [h2]
  unfold robinG allR
  rw [h3, h.len]
theorem sameM.check {m m' : List Mem} (h : sameM m m') (l : List Topic) : checkE l m = checkE l m' := by
  unfold checkE
  rw [h.len]
  have : membersOk m ↔ membersOk m' := by
    unfold membersOk
    have hl := h.len
    constructor
    · intro h1 i hi
      have h2 := h1 i (by omega)
      rwa [(h.at_ _ (by omega)).1, (h.at_ _ (by omega)).1] at h2
    · intro h1 i hi
      have h2 := h1 i (by omega)
      rwa [← (h.at_ (show i < m.length by omega) _).1, ← (h.at_ (show i + 1 < m.length by omega) _).1] at h2
  simp only [this]
theorem same_st {L : List Seat} {S : List St} (h : L.map Seat.st = S) : sameM (L.map Seat.m) (mems S) := by
  subst h
  unfold sameM mems
  rw [List.map_map, List.map_map, List.map_map]
  rfl
noncomputable def giveM (rb : Bool) (l : List Topic) (m : List Mem) : List (List Part) := if rb = true then robinG l m else rangeG l m
noncomputable def giveG (G : Gs) (l : List Topic) : List (List Part) := giveM G.rb l (mems G.S)
noncomputable def gvE (G : Gs) (name : ByteArray) (gen : Int) (l : List Topic) : Int := if checkE l (mems G.S) ≠ 0 then checkE l (mems G.S) else fenceE G name gen
def placeN (S : List St) (name : ByteArray) : Nat := S.findIdx fun x => decide (x.name = name)
noncomputable def gvP (G : Gs) (name : ByteArray) (gen : Int) (l : List Topic) : List Part := if gvE G name gen l = 0 then ((giveG G l)[placeN G.S name]?).getD [] else []
theorem placeN_at {S : List St} (hs : S.Pairwise bfr) {j : Nat} (hj : j < S.length) : placeN S S[j].name = j := by
  unfold placeN
  rw [List.findIdx_eq hj]
  refine ⟨by simp, fun i hi => ?_⟩
  have h1 := List.pairwise_iff_getElem.1 hs i j (by omega) hj hi
  exact decide_eq_false (bfr_key h1)
theorem place_of {S : List St} {name : ByteArray} (h : eGet S name ≠ none) : ∃ (j : Nat) (hj : j < S.length), S[j].name = name := by
  obtain ⟨x, hx, hk⟩ := eGet_ne.1 h
  obtain ⟨j, hj, rfl⟩ := List.getElem_of_mem hx
  exact ⟨j, hj, hk⟩
theorem names_nodup {S : List St} (hs : S.Pairwise bfr) : (names S).Nodup := srt_nodup hs
def giveF (rb : Bool) : FuncId := if rb = true then 53 else 52
theorem pGive (rb : Bool) (w0 : World) (a b : Option Addr) (c d : Nat) (l : List Topic) (m : List Mem) (hl : Sl w0 a l) (hm : Sl w0 b m) (hts : ∀ x ∈ m, Sl w0 x.ta x.topics ∧ x.topics.length ≤ 1000) :
    Ct Try.prog (giveF rb) #[.slice a l.length c, .slice b m.length d] w0 fun v w' => (∃ q cq g, v = .tuple #[.slice q g.length cq, .int .i64 (checkE l m)] ∧ GridO 60 66 w0.heap.size w' q cq g ∧ rows g = if checkE l m = 0 then giveM rb l m else []) ∧ Ext w0 w' := by
  unfold giveF giveM
  cases rb with
  | true => exact pRobin w0 a b c d l m hl hm hts
  | false => exact pRange w0 a b c d l m hl hm hts
theorem giveM_len (rb : Bool) (l : List Topic) (m : List Mem) : (giveM rb l m).length = m.length := by
  unfold giveM
  split
  · exact allR_length m l
  · unfold rangeG; simp
theorem gIndex (w0 : World) (a : Option Addr) (c : Nat) (l : List ByteArray) (t : ByteArray) (hl : Sl w0 a l) (hlen : l.length ≤ 100000) :
    Ct Try.prog 54 #[.slice a l.length c, .string t] w0 fun v w' => (∃ r : Int, v = .int .i64 r ∧ ∀ (j : Nat) (h : j < l.length), l.Nodup → l[j] = t → r = (j : Int)) ∧ Ext w0 w' := by
  refine Ct.intro1 Try.func54 Try.ntmps54 rfl rfl (by decide) rfl ?_
  have H : Ext w0 w0 := Ext.refl w0
  refine WP.regionS ?_
  refine RL.r (asgI rfl) rfl ?_
  refine RL.nil ?_
  refine WP.seq ?_
  refine WP.regionS ?_
  refine RL.r (mvL rfl) rfl ?_
  refine RL.r (len_sl rfl) rfl ?_
  refine RL.r (mvI rfl) rfl ?_
  refine RL.nil ?_
  refine WP.block ?_
  refine WP.loop (fun k e' w' => ∃ j : Nat,  j + k = l.length ∧ Head [4, 5, 8, 9, 10, 11, 12, 13, 14, 15, 16, 17, 18] _ [(8, .int .i64 (j : Int))] e' ∧ Ext w0 w' ∧ ∀ (i : Nat) (h : i < l.length), i < j → l[i] ≠ t) (l.length)
    ⟨0, by omega, Head.intro (AgreeOff.refl _ _) ⟨rfl, trivial⟩, H, fun i h hi => by omega⟩ ?_
  clear H
  rintro k e w1 ⟨j, hjk, ⟨jk, rfl⟩, H, hok⟩
  refine WP.regionS ?_
  refine RL.r (lss rfl rfl) rfl ?_
  refine RL.nil ?_
  refine WP.seq ?_
  refine WP.cond rfl (fun hc => ?_) (fun hc => ?_)
  · refine WP.skip ?_
    refine WP.seq ?_
    refine WP.block ?_
    refine WP.regionS ?_
    refine RL.r (mvI rfl) rfl ?_
    refine RL.r (asgI rfl) rfl ?_
    refine RL.nil ?_
    refine WP.regionS ?_
    refine RL.r (mvS rfl) rfl ?_
    refine RL.r (mvL rfl) rfl ?_
    refine RL.r (mvI rfl) rfl ?_
    have hj : j < l.length := by omega
    have hl2 := hl
    obtain ⟨q, hq⟩ := hl.isAddr (by decide) hj
    subst hq
    refine RL.r (ix rfl rfl rfl (by omega)) rfl ?_
    refine RL.m (ld_e0 rfl hl H rfl (by omega) rfl) rfl ?_
    refine RL.r (seql rfl rfl) rfl ?_
    refine RL.nil ?_
    refine WP.cond rfl (fun hc => ?_) (fun hc => ?_)
    · refine WP.regionS ?_
      refine RL.r (mvI rfl) rfl ?_
      refine RL.r (asgI rfl) rfl ?_
      refine RL.nil ?_
      refine WP.ret ?_
      refine fin1_ret rfl ⟨⟨_, rfl, fun n hn hnd he => ?_⟩, H⟩
      have h1 : l[n]? = l[j]? := by rw [List.getElem?_eq_getElem hn, List.getElem?_eq_getElem hj, he, hc]
      have := (List.getElem?_inj hn hnd).1 h1
      omega
    · refine WP.skip ?_
      refine WP.region ?_
      refine RL.r (add rfl rfl (by omega)) rfl ?_
      refine RL.r (mvI rfl) rfl ?_
      refine RL.nil ?_
      refine ⟨k - 1, by omega, j + 1, by omega, Head.intro (by repeat (first | with_reducible exact AgreeOff.mix _ _ _ | refine AgreeOff.look rfl ?_ | refine AgreeOff.mixs rfl ?_)) ⟨rfl, trivial⟩, H, fun i h hi => ?_⟩
      by_cases hij : i < j
      · exact hok i h hij
      · obtain rfl : i = j := by omega
        exact fun e => hc e.symm
  · refine WP.exit ?_
    refine WP.regionS ?_
    refine RL.r (asgI rfl) rfl ?_
    refine RL.nil ?_
    refine WP.ret ?_
    refine fin1_ret rfl ⟨⟨_, rfl, fun n hn _ he => absurd he (hok n hn (by omega))⟩, H⟩
theorem gAssigned (w0 : World) (B i m : Nat) (G : Gs) (hT : Tg B w0 i m G) (name : ByteArray) (gen : Int) (a0 : Option Addr) (c0 : Nat) (l : List Topic) (hl : Sl w0 a0 l) :
    Ct Try.prog 25 #[.pointer (some ⟨i, 0, none⟩), .string name, .int .i64 gen, .slice a0 l.length c0] w0 fun v w' => (∃ a c, v = .tuple #[.slice a (gvP G name gen l).length c, .int .i64 (gvE G name gen l)] ∧ Own w0.heap.size w' 66 a c (gvP G name gen l)) ∧ Ext w0 w' := by
  refine Ct.intro2 Try.func25 Try.ntmps25 rfl rfl (by decide) rfl ?_
  have H : Ext w0 w0 := Ext.refl w0
  have hbt := hT.box
  have hok := hT.ok
  have hle8 := hok.len
  refine WP.regionS ?_
  refine RL.r (asgL rfl) rfl ?_
  refine RL.r (asgI rfl) rfl ?_
  refine RL.nil ?_
  refine WP.regionS ?_
  refine RL.r (asgL rfl) rfl ?_
  refine RL.nil ?_
  refine WP.seq ?_
  refine WP.regionS ?_
  refine RL.r (mvP rfl) rfl ?_
  -- call (*stagecoach/group.Group).Seats (tmp 17)
  refine RL.call (gSeats _ B i m G hT) rfl rfl ?_
  rintro v w1 ⟨⟨a18, c18, L, rfl, hL, hLs, hLo, hLa⟩, hx⟩
  replace H := H.ext hx; replace hbt := hbt.ext hx
  refine RL.r (len_sl rfl) rfl ?_
  refine RL.r (mvI rfl) rfl ?_
  refine RL.nil ?_
  refine WP.block ?_
  have hLl : L.length = G.S.length := by rw [← hLs, List.length_map]
  refine WP.loop (fun k e' w' => ∃ j : Nat, ∃ (a10 : Option Addr) (c10 : Nat),  j + k = L.length ∧ Head [10, 12, 20, 21, 22, 23, 24, 25, 26, 27, 28, 29] _ [(10, .slice a10 ((L.take j).map Seat.m).length c10), (20, .int .i64 (j : Int))] e' ∧ Ext w0 w' ∧ Box B w' i 75 [.int .i64 G.gen, .bool G.rb, .map (some m)] ∧ Own w0.heap.size w' 29 a10 c10 ((L.take j).map Seat.m) ∧ Own w0.heap.size w' 31 a18 c18 L ∧ Owns w0.heap.size w' L) (L.length)
    ⟨0, none, 0, by omega, Head.intro (AgreeOff.refl _ _) ⟨rfl, rfl, trivial⟩, H, hbt, Own.nil _ _ _, hL, hLo⟩ ?_
  clear H hbt hL hLo
  rintro k e w2 ⟨j, a10, c10, hjk, ⟨jk, rfl⟩, H, hbt, hM, hL, hLo⟩
  have hml : ((L.take j).map Seat.m).length ≤ 8 := by rw [List.length_map, List.length_take]; omega
  refine WP.regionS ?_
  refine RL.r (lss rfl rfl) rfl ?_
  refine RL.nil ?_
  refine WP.seq ?_
  refine WP.cond rfl (fun hc => ?_) (fun hc => ?_)
  · refine WP.skip ?_
    refine WP.seq ?_
    refine WP.block ?_
    refine WP.regionS ?_
    have hj : j < L.length := by omega
    obtain ⟨q, hq⟩ := hL.sl.isAddr (by decide) hj
    subst hq
    refine RL.r (ix rfl rfl rfl hj) rfl ?_
    refine RL.m (ldS_el rfl hL.sl (Ext.refl _) rfl rfl hj) rfl ?_
    refine RL.alloc w0.heap.size H.size rfl rfl ?_
    intro w3 i12 hi12 hx hb12
    have net_12 := hbt.ne hi12
    refine RL.storeS rfl hb12 rfl rfl rfl rfl ?_
    intro w4 hu hb12
    replace hx := hx.box hu (Nat.le_of_eq hi12.symm)
    replace H := H.ext hx; replace hbt := hbt.ext hx; replace hM := hM.ext hx; replace hL := hL.ext hx; replace hLo := hLo.ext hx; clear hx hu
    refine RL.nil ?_
    refine WP.region ?_
    refine RL.r (mvL rfl) rfl ?_
    refine RL.r (fa_box rfl) rfl ?_
    refine RL.m (ldS_box rfl hb12 (Nat.le_of_ble_eq_true rfl) rfl) rfl ?_
    refine RL.buildSlice w0.heap.size H.size rfl rfl rfl rfl rfl ?_
    intro w5 i27 hi27 hx hb27
    replace H := H.ext hx; replace hbt := hbt.ext hx; replace hb12 := hb12.ext hx; replace hM := hM.ext hx; replace hL := hL.ext hx; replace hLo := hLo.ext hx; clear hx
    refine RL.appendS rfl hM H.size rfl (show Sl _ _ [L[j].m] from Box.sl1 hb27) rfl rfl (by decide) rfl cell1 (by omega) (by simp only [maxLen]; omega) rfl ?_
    intro w6 a28 c28 hu hb28 hfr28
    replace hbt := hbt.upd hu (fun h => hM.box_apart hbt (by decide) h)
    replace hL := hL.upd hu (fun k hk h => hL.apart hM (by decide) hk h)
    replace hLo := hLo.ow hM (by decide) hu
    replace H := Ext.own H hM hu; clear hu
    refine RL.r (asgL rfl) rfl ?_
    refine RL.nil ?_
    refine WP.region ?_
    refine RL.r (add rfl rfl (by omega)) rfl ?_
    refine RL.r (mvI rfl) rfl ?_
    refine RL.nil ?_
    refine ⟨k - 1, by omega, j + 1, a28, c28, by omega, Head.intro (by repeat (first | with_reducible exact AgreeOff.mix _ _ _ | refine AgreeOff.look rfl ?_ | refine AgreeOff.mixs rfl ?_)) ⟨slE (by rw [List.take_succ_eq_append_getElem hj, List.map_append]; rfl), rfl, trivial⟩, H, hbt, (by rw [List.take_succ_eq_append_getElem hj, List.map_append]; exact hb28), hL, hLo⟩
  · refine WP.exit ?_
    refine WP.regionS ?_
    refine RL.r (asgF rfl) rfl ?_
    refine RL.nil ?_
    refine WP.seq ?_
    refine WP.regionS ?_
    refine RL.r (mvP rfl) rfl ?_
    refine RL.r (nilck rfl) rfl ?_
    refine RL.r (fa_box rfl) rfl ?_
    refine RL.m (ld_box rfl hbt rfl) rfl ?_
    refine RL.nil ?_
    refine WP.cut (α := FuncId) [13] (fun x => [(13, .func (.func x) #[] #[])]) (fun x w' => Ext w0 w' ∧ Box B w' i 75 [.int .i64 G.gen, .bool G.rb, .map (some m)] ∧ x = giveF G.rb ∧ Own w0.heap.size w' 31 a18 c18 L ∧ Own w0.heap.size w' 29 a10 c10 (L.map Seat.m) ∧ Owns w0.heap.size w' L) ?_ ?_
    · refine WP.condB rfl (fun hc => ?_) (fun hc => ?_)
      · refine WP.region ?_
        refine RL.r (asgF rfl) rfl ?_
        refine RL.nil ?_
        refine ⟨_, Head.intro (by repeat (first | with_reducible exact AgreeOff.refl _ _ | with_reducible exact AgreeOff.mix _ _ _ | refine AgreeOff.look rfl ?_ | refine AgreeOff.mixs rfl ?_)) ⟨rfl, trivial⟩, H, hbt, by unfold giveF; rw [hc]; rfl, hL, (by rw [List.take_of_length_le (by omega)] at hM; exact hM), hLo⟩
      · refine WP.skip ?_
        refine ⟨_, Head.intro (by repeat (first | with_reducible exact AgreeOff.refl _ _ | with_reducible exact AgreeOff.mix _ _ _ | refine AgreeOff.look rfl ?_ | refine AgreeOff.mixs rfl ?_)) ⟨rfl, trivial⟩, H, hbt, by unfold giveF; rw [hc]; rfl, hL, (by rw [List.take_of_length_le (by omega)] at hM; exact hM), hLo⟩
    clear hM hL hLo
    rintro f jc w7 ⟨H, hbt, hf, hL, hM, hLo⟩
    refine WP.regionS ?_
    refine RL.r (mvF rfl) rfl ?_
    refine RL.r (mvL rfl) rfl ?_
    refine RL.r (mvL rfl) rfl ?_
    -- call VALUE (tmp 35) (tmp 36) (tmp 37)
    have hjl : j = L.length := by omega
    rw [hjl, List.take_length]
    subst hf
    have hsm := same_st hLs
    have hck := hsm.check l
    have hsz := H.size
    refine RL.callv0 rfl (pGive G.rb _ a0 a10 c0 c10 l (L.map Seat.m) (hl.ext H) hM.sl (fun x hx => by
      obtain ⟨y, hy, rfl⟩ := List.mem_map.1 hx
      refine ⟨(hLo y hy).sl, ?_⟩
      have h1 := topics_le hok (s := y.st) (by rw [← hLs]; exact List.mem_map.2 ⟨y, hy, rfl⟩)
      exact Nat.le_trans h1 (by decide))) rfl rfl ?_
    rintro v w8 ⟨⟨q, cq, g, rfl, hG, hg⟩, hx⟩
    replace H := H.ext hx; replace hbt := hbt.ext hx; replace hM := hM.ext hx; replace hL := hL.ext hx; replace hLo := hLo.ext hx
    refine RL.r (mvU rfl) rfl ?_
    refine RL.r (ex0 rfl) rfl ?_
    refine RL.r (ex1 rfl) rfl ?_
    refine RL.r (asgL rfl) rfl ?_
    refine RL.r (asgI rfl) rfl ?_
    refine RL.nil ?_
    refine WP.seq ?_
    refine WP.regionS ?_
    refine RL.r (mvI rfl) rfl ?_
    refine RL.r (neq rfl rfl) rfl ?_
    refine RL.nil ?_
    refine WP.cond rfl (fun hc => ?_) (fun hc => ?_)
    · refine WP.regionS ?_
      refine RL.r (mvI rfl) rfl ?_
      refine RL.r (asgL rfl) rfl ?_
      refine RL.r (asgI rfl) rfl ?_
      refine RL.nil ?_
      refine WP.ret ?_
      have hE : gvE G name gen l = checkE l (L.map Seat.m) := by unfold gvE; rw [← hck, if_pos hc]
      have hP : gvP G name gen l = [] := by unfold gvP; rw [if_neg (by rw [hE]; exact hc)]
      refine fin2_ret rfl rfl ⟨⟨none, 0, by rw [hP, hE]; rfl, by rw [hP]; exact Own.nil _ _ _⟩, H⟩
    · refine WP.skip ?_
      refine WP.seq ?_
      refine WP.regionS ?_
      refine RL.r (mvP rfl) rfl ?_
      refine RL.r (mvS rfl) rfl ?_
      refine RL.r (mvI rfl) rfl ?_
      -- call (*stagecoach/group.Group).Fence (tmp 44) (tmp 45) (tmp 46)
      refine RL.call (gFence _ B i m G (hT.ext H) name gen) rfl rfl ?_
      rintro _ w9 ⟨rfl, hx⟩
      replace H := H.ext hx; replace hbt := hbt.ext hx; replace hM := hM.ext hx; replace hL := hL.ext hx; replace hLo := hLo.ext hx; replace hG := hG.ext hx
      refine RL.r (asgI rfl) rfl ?_
      refine RL.nil ?_
      refine WP.regionS ?_
      refine RL.r (mvI rfl) rfl ?_
      refine RL.r (neq rfl rfl) rfl ?_
      refine RL.nil ?_
      refine WP.cond rfl (fun hc => ?_) (fun hc => ?_)
      · refine WP.regionS ?_
        refine RL.r (mvI rfl) rfl ?_
        refine RL.r (asgL rfl) rfl ?_
        refine RL.r (asgI rfl) rfl ?_
        refine RL.nil ?_
        refine WP.ret ?_
        have hE : gvE G name gen l = fenceE G name gen := by unfold gvE; rw [← hck, if_neg (by assumption)]
        have hP : gvP G name gen l = [] := by unfold gvP; rw [if_neg (by rw [hE]; exact hc)]
        refine fin2_ret rfl rfl ⟨⟨none, 0, by rw [hP, hE]; rfl, by rw [hP]; exact Own.nil _ _ _⟩, H⟩
      · refine WP.skip ?_
        refine WP.regionS ?_
        refine RL.r (mvL rfl) rfl ?_
        refine RL.r (mvP rfl) rfl ?_
        -- call (*stagecoach/group.Group).names (tmp 52)
        refine RL.call (gNames _ B i m G (hT.ext H)) rfl rfl ?_
        rintro v w10 ⟨⟨a53, c53, rfl, hN⟩, hx⟩
        replace H := H.ext hx; replace hbt := hbt.ext hx; replace hM := hM.ext hx; replace hL := hL.ext hx; replace hLo := hLo.ext hx; replace hG := hG.ext hx
        refine RL.r (mvS rfl) rfl ?_
        -- call slices.Index[[]string,string] (tmp 53) (tmp 54)
        refine RL.call (gIndex _ a53 c53 (names G.S) name hN.sl (by rw [names_len]; omega)) rfl rfl ?_
        rintro v w11 ⟨⟨r, rfl, hr⟩, hx⟩
        replace H := H.ext hx; replace hbt := hbt.ext hx; replace hLo := hLo.ext hx; replace hG := hG.ext hx; replace hN := hN.ext hx
        have h0 : fenceE G name gen = 0 := Classical.not_not.1 hc
        have hE : gvE G name gen l = 0 := by unfold gvE; rw [← hck, if_neg (by assumption)]; exact h0
        obtain ⟨j2, hj2, hn2⟩ := place_of (fence0 h0).1
        have hck0 : checkE l (L.map Seat.m) = 0 := Classical.not_not.1 (by assumption)
        rw [if_pos hck0] at hg
        have hgl : g.length = G.S.length := by rw [rows_length hg, giveM_len, List.length_map]; exact hLl
        have hj2g : j2 < g.length := by omega
        obtain ⟨q, rfl⟩ := hG.head.sl.isAddr (by decide) hj2g
        have hrj := hr j2 (by rw [names_len]; exact hj2) (names_nodup hok.srt) (by rw [names_get hj2]; exact hn2)
        refine RL.r (ix rfl rfl hrj hj2g) rfl ?_
        refine RL.m (ld_e0 rfl hG.head.sl (Ext.refl _) rfl hj2g rfl) rfl ?_
        refine RL.r (asgL rfl) rfl ?_
        refine RL.r (asgI rfl) rfl ?_
        refine RL.nil ?_
        refine WP.ret ?_
        have hP : gvP G name gen l = g[j2].l := by
          unfold gvP giveG
          rw [if_pos hE, ← hn2, placeN_at hok.srt hj2]
          have hgm : giveM G.rb l (mems G.S) = rows g := by
            rw [hg]
            unfold giveM
            rw [hsm.range, hsm.robin]
          rw [hgm]
          simp [rows, hj2g]
        refine fin2_ret rfl rfl ⟨⟨g[j2].a, g[j2].c, by rw [hP, hE]; rfl, by rw [hP]; exact (hG.row j2 hj2g).mono hsz⟩, H⟩
end Go.Proofs.Ytlkpgeopcdhgjaa
