/-
  GroupParts: the plain law and the walk.
-/
import Derived.Test.YtlkpgeopcdhgjaaCut11
import Derived.Test.YtlkpgeopcdhgjaaLawP
import Derived.Test.YtlkpgeopcdhgjaaOpen11
set_option linter.unusedVariables false
namespace Go.Proofs.Ytlkpgeopcdhgjaa
open Go Go.Eng Go.RowKit
theorem CutO.bx {B B' b : Nat} {w w' : World} {s : Seat} {T : TypeId} {cs : List Value} (h : CutO B w s) (hb : Box B' w b T cs) (hT : 9 ≠ T) (k : Upd (· = b) w w') : CutO B w' s := ⟨ownbx h.own hb hT k, h.len, h.txt, h.nm⟩
theorem top_le {G : Gs} {L : List Seat} (h : okG G) (hm : L.map Seat.st = G.S) : ∀ x ∈ L, x.topics.length ≤ 100000 := fun x hx => by
  have h2 : x.st ∈ G.S := by rw [← hm]; exact List.mem_map_of_mem hx
  have := (h.may _ h2).2.2.1
  show x.st.topics.length ≤ 100000
  omega
theorem mems_chk {G : Gs} (h : okG G) (l : List Topic) : checkE l (mems G.S) = checkE l [] := by
  have h1 : membersOk (mems G.S) := mems_ok h.srt
  have h2 : membersOk [] := fun i hi => absurd hi (by simp)
  have hl : (mems G.S).length ≤ 8 := by unfold mems; rw [List.length_map]; exact h.len
  unfold checkE
  rw [if_neg (show ¬ 8 < (mems G.S).length by omega), if_pos h1, if_neg (show ¬ 8 < ([] : List Mem).length by simp), if_pos h2]
theorem fence_here {G : Gs} (h : okG G) {x : St} (hx : x ∈ G.S) (n : Int) : fenceE G x.name n = if n ≠ G.gen then 111 else 0 := by
  unfold fenceE
  rw [if_neg (show ¬ eGet G.S x.name = none from eGet_ne.2 ⟨x, hx, rfl⟩)]
theorem gv_here {G : Gs} (h : okG G) {x : St} (hx : x ∈ G.S) (l : List Topic) : gvE G x.name G.gen l = checkE l [] := by
  unfold gvE
  rw [mems_chk h]
  by_cases h0 : checkE l [] = 0
  · rw [if_neg (not_not_intro h0), fence_here h hx, if_neg (fun h => h rfl), h0]
  · rw [if_pos h0]
theorem gv_old {G : Gs} (h : okG G) {x : St} (hx : x ∈ G.S) (l : List Topic) (h0 : checkE l [] = 0) : gvE G x.name (G.gen - 1) l = 111 := by
  unfold gvE
  rw [mems_chk h, fence_here h hx, if_neg (not_not_intro h0), if_pos (by omega)]
theorem give_len (G : Gs) (l : List Topic) : (giveG G l).length = G.S.length := by unfold giveG; rw [giveM_len]; unfold mems; rw [List.length_map]
theorem gvP_here {G : Gs} (h : okG G) {j : Nat} (hj : j < G.S.length) (l : List Topic) : gvP G G.S[j].name G.gen l = if checkE l [] = 0 then (giveG G l)[j]'(by rw [give_len]; exact hj) else [] := by
  unfold gvP
  rw [gv_here h (List.getElem_mem hj), placeN_at h.srt hj, List.getElem?_eq_getElem (by rw [give_len]; exact hj)]
  rfl
theorem give_ok (G : Gs) (l : List Topic) : PlanOk l (mems G.S) (giveG G l) := by
  unfold giveG giveM
  split
  · exact robin_ok _ _
  · exact range_ok _ _
theorem give_le {G : Gs} (h : okG G) {l : List Topic} (h0 : checkE l [] = 0) : ∀ r ∈ giveG G l, r.length ≤ 64 := by
  have h1 : checkE l (mems G.S) = 0 := by rw [mems_chk h]; exact h0
  unfold giveG giveM
  split
  · exact robinG_le h1
  · exact rangeG_le h1
theorem gvP_le {G : Gs} (h : okG G) {j : Nat} (hj : j < G.S.length) (l : List Topic) : (gvP G G.S[j].name G.gen l).length ≤ 64 := by
  rw [gvP_here h hj]
  split
  · rename_i h0; exact give_le h h0 _ (List.getElem_mem _)
  · simp
/-- what all members were told -/
noncomputable def told (G : Gs) (l : List Topic) (j : Nat) : List (List Part) := (G.S.take j).map fun x => gvP G x.name G.gen l
theorem told_s {G : Gs} {l : List Topic} {j : Nat} (hj : j < G.S.length) : told G l (j + 1) = told G l j ++ [gvP G G.S[j].name G.gen l] := by
  unfold told
  rw [List.take_succ_eq_append_getElem hj, List.map_append]
  rfl
theorem told_all {G : Gs} (h : okG G) {l : List Topic} (h0 : checkE l [] = 0) : told G l G.S.length = giveG G l := by
  unfold told
  rw [List.take_length]
  refine List.ext_getElem (by rw [List.length_map, give_len]) fun i h1 h2 => ?_
  rw [List.getElem_map, gvP_here h (by rw [List.length_map] at h1; exact h1), if_pos h0]
theorem told_part {G : Gs} (h : okG G) {l : List Topic} {j : Nat} (hj : j < G.S.length) {x : Part} (hx : x ∈ gvP G G.S[j].name G.gen l) : whose (told G l G.S.length) x = (j : Int) ∧ x.topic ∈ G.S[j].topics := by
  have h0 : checkE l [] = 0 := by
    rw [gvP_here h hj] at hx
    split at hx
    · assumption
    · cases hx
  rw [gvP_here h hj, if_pos h0] at hx
  have h1 : checkE l (mems G.S) = 0 := by rw [mems_chk h]; exact h0
  have hp := give_ok G l
  have hjg : j < (giveG G l).length := by rw [give_len]; exact hj
  refine ⟨by rw [told_all h h0]; exact hp.who (check_ok h1).2.1 j hjg x hx, ?_⟩
  obtain ⟨hm, hw⟩ := hp.wants j hjg x hx
  have e : (mems G.S)[j]'hm = memOf G.S[j] := by simp [mems]
  rw [e] at hw
  exact hw
def OwnsP (B : Nat) (w : World) (g : List (Rw Part)) : Prop := ∀ r ∈ g, Own B w 66 r.a r.c r.l
theorem OwnsP.ext {B : Nat} {w w' : World} {g : List (Rw Part)} (h : OwnsP B w g) (k : Ext w w') : OwnsP B w' g := fun x hx => (h x hx).ext k
theorem OwnsP.ow {α : Type} [Lies α] {B B' c : Nat} {w w' : World} {g : List (Rw Part)} {T : TypeId} {a : Option Addr} {l : List α} (h : OwnsP B w g) (ho : Own B' w T a c l) (hT : 66 ≠ T) (k : Upd (inBlock a) w w') : OwnsP B w' g := fun x hx => (h x hx).upd k fun y hy => (h x hx).apart ho hT hy
theorem OwnsP.gr {B : Nat} {w : World} {T : TypeId} {a : Option Addr} {c : Nat} {g : List (Rw Part)} (h : OwnsP B w g) (ho : Own B w T a c g) : Gr w a g := ⟨ho.sl, fun r hr => (h r hr).sl⟩
theorem ownow {α β : Type} [Lies α] [Lies β] {B B' : Nat} {w w' : World} {T T' : TypeId} {a a' : Option Addr} {c c' : Nat} {l : List α} {l' : List β} (h : Own B w T a c l) (ho : Own B' w T' a' c' l') (hT : T ≠ T') (k : Upd (inBlock a') w w') : Own B w' T a c l := h.upd k (fun y hy => h.apart ho hT hy)
theorem L_at {G : Gs} {L : List Seat} (h : L.map Seat.st = G.S) {j : Nat} (hj : j < L.length) : ∃ hj' : j < G.S.length, G.S[j].name = L[j].name ∧ G.S[j].topics = L[j].topics := by
  have hl : L.length = G.S.length := by rw [← h, List.length_map]
  refine ⟨by omega, ?_⟩
  have e : G.S[j]'(by omega) = L[j].st := by
    have : (L.map Seat.st)[j]'(by rw [List.length_map]; exact hj) = L[j].st := List.getElem_map _
    rw [← this]
    congr 1
    exact h.symm
  rw [e]
  exact ⟨rfl, rfl⟩
set_option maxRecDepth 20000 in
set_option maxHeartbeats 1600000 in
theorem lParts (w0 : World) (a a2 : Option Addr) (c c2 : Nat) (l : List GOp) (t : List Topic) (hl : SlI w0 a l) (hin : ∀ x ∈ l, inSeat w0 x.s) (ht : SlI w0 a2 t) :
    Ct Try.prog 6 #[.slice a l.length c, .slice a2 t.length c2] w0 fun v w' => v = .bool true ∧ Ext w0 w' := by
  refine Ct.intro1 Try.func6 Try.ntmps6 rfl rfl (by decide) rfl ?_
  have H : Ext w0 w0 := Ext.refl w0
  refine WP.regionS ?_
  refine RL.r (asgB rfl) rfl ?_
  refine RL.nil ?_
  refine WP.regionS ?_
  -- call stagecoach/group.New 
  refine RL.call (gNew _) rfl rfl ?_
  rintro v w1 ⟨⟨i, m, rfl, hT⟩, hx⟩
  replace H := H.ext hx
  refine RL.r (asgP rfl) rfl ?_
  refine RL.nil ?_
  refine WP.seq ?_
  refine WP.regionS ?_
  refine RL.r (mvP rfl) rfl ?_
  refine RL.r (peqn rfl rfl) rfl ?_
  refine RL.nil ?_
  refine WP.cond rfl (fun hc => ?_) (fun hc => ?_)
  · refine WP.regionS ?_
    refine RL.r (asgB rfl) rfl ?_
    refine RL.nil ?_
    refine WP.ret ?_
    refine fin1_ret rfl ⟨absurd hc (by simp), H⟩
  · refine WP.skip ?_
    refine WP.seq ?_
    refine WP.regionS ?_
    refine RL.r (asgI rfl) rfl ?_
    refine RL.nil ?_
    refine WP.block ?_
    refine WP.loop (fun k e' w' => ∃ j : Nat, ∃ G : Gs,  j + k = min l.length 40 ∧ Head [6, 7, 24, 25, 26, 27, 28, 29, 30, 31, 32, 33, 34, 35, 36, 37, 38, 39, 40, 41, 42, 43, 44, 45, 46, 47, 48, 49, 50, 51, 52, 53, 54, 55, 56, 57, 58, 59, 60, 61, 62, 63] _ [(6, .int .i64 (j : Int))] e' ∧ Ext w0 w' ∧ Tg w0.heap.size w' i m G) (min l.length 40)
      ⟨0, g0, by omega, Head.intro (AgreeOff.refl _ _) ⟨rfl, trivial⟩, H, hT⟩ ?_
    clear H hT
    rintro k e w2 ⟨j, G, hjk, ⟨jk, rfl⟩, H, hT⟩
    refine WP.seq ?_
    refine WP.seq (WP.quiet ?_)
    refine QL.r (mvI rfl) rfl ?_
    refine QL.r (mvL rfl) rfl ?_
    refine QL.r (len_sl rfl) rfl ?_
    refine QL.r (lss rfl rfl) rfl ?_
    refine QL.r (mvB rfl) rfl ?_
    refine QL.gg (gwT rfl rfl) (fun hg => (mvI rfl).does _) rfl ?_
    refine QL.gg (gwT rfl rfl) (fun hg => (lss (gs hg rfl) rfl).does _) rfl ?_
    refine QL.r (pickAnd rfl (fun hn => gs hn rfl)) rfl ?_
    refine QL.nil ?_; intro w3 hx; replace H := H.ext hx; replace hT := hT.ext hx
    refine WP.cond rfl (fun hc => ?_) (fun hc => ?_)
    · refine WP.skip ?_
      refine WP.seq ?_
      refine WP.block ?_
      refine WP.regionS ?_
      refine RL.r (mvL rfl) rfl ?_
      refine RL.r (mvI rfl) rfl ?_
      have hj : j < l.length := by omega
      have hinj := hin _ (List.getElem_mem hj)
      have hl := hl (List.ne_nil_of_length_pos (by omega))
      obtain ⟨p, rfl⟩ := hl.isAddr (by decide) hj
      refine RL.r (ix rfl rfl rfl hj) rfl ?_
      refine RL.r (fa_el hl.1 rfl) rfl ?_
      refine RL.m (ldS_ef rfl hl H hj rfl (Nat.le_of_ble_eq_true rfl)) rfl ?_
      -- call stagecoach/stagecoachlaw11.Cut (tmp 38)
      refine RL.call (lCut _ l[j].s (fun h => (hinj.1 h).ext H)) rfl rfl ?_
      rintro v w4 ⟨⟨s, rfl, hcu⟩, hx⟩
      replace H := H.ext hx; replace hT := hT.ext hx
      refine RL.alloc w0.heap.size H.size rfl rfl ?_
      intro w5 i7 hi7 hx hb7
      refine RL.storeS rfl hb7 rfl rfl rfl rfl ?_
      intro w6 hu hb7
      replace hx := hx.box hu (Nat.le_of_eq hi7.symm)
      replace H := H.ext hx; replace hT := hT.ext hx; replace hcu := hcu.ext hx; clear hx hu
      refine RL.nil ?_
      refine WP.regionS ?_
      refine RL.r (mvL rfl) rfl ?_
      refine RL.r (mvI rfl) rfl ?_
      refine RL.r (ix rfl rfl rfl hj) rfl ?_
      refine RL.r (fa_el hl.1 rfl) rfl ?_
      refine RL.m (ld_el rfl hl H rfl hj rfl) rfl ?_
      refine RL.r (eql rfl rfl) rfl ?_
      refine RL.nil ?_
      refine WP.cond rfl (fun hc => ?_) (fun hc => ?_)
      · refine WP.any ?_
        intro w7 hx; replace H := H.ext hx; replace hb7 := hb7.ext hx; replace hT := hT.ext hx; replace hcu := hcu.ext hx
        refine AL.p 0 (by kernel_rfl) rfl (mvP rfl) rfl ?_
        refine AL.p 1 (by kernel_rfl) rfl (fa_box rfl) rfl ?_
        refine AL.p 2 (by kernel_rfl) rfl (fa_box rfl) rfl ?_
        refine AL.p 4 (by kernel_rfl) rfl (mvL rfl) rfl ?_
        refine AL.p 5 (by kernel_rfl) rfl (mvI rfl) rfl ?_
        refine AL.p 6 (by kernel_rfl) rfl (ix rfl rfl rfl hj) rfl ?_
        refine AL.p 7 (by kernel_rfl) rfl (fa_el hl.1 rfl) rfl ?_
        refine AL.m 3 (by kernel_rfl) rfl (ld_box rfl hb7 rfl) rfl ?_
        refine AL.m 8 (by kernel_rfl) rfl (ld_el rfl hl H rfl hj rfl) rfl ?_
        refine AL.o 9 (by kernel_rfl) rfl ?_
        -- call (*stagecoach/group.Group).Leave (tmp 46) (tmp 49) (tmp 54)
        refine RL.call (gLeave _ _ i m G hT s.name l[j].gen) rfl rfl ?_
        rintro _ w8 ⟨⟨rfl, hT2⟩, hx⟩
        replace H := Ext.upd H hx (xg_old hT (Nat.le_refl _)); replace hb7 := box_xg hb7 hT (by decide) hx
        replace hT := hT2; clear hT2
        refine RL.nil ?_
        refine AL.nil (by kernel_rfl) ?_
        refine WP.region ?_
        refine RL.r (mvI rfl) rfl ?_
        refine RL.r (add rfl rfl (by omega)) rfl ?_
        refine RL.r (asgI rfl) rfl ?_
        refine RL.nil ?_
        refine ⟨k - 1, by omega, j + 1, leaveG G s.name l[j].gen, by omega, Head.intro (by repeat (first | with_reducible exact AgreeOff.mix _ _ _ | refine AgreeOff.look rfl ?_ | refine AgreeOff.mixs rfl ?_)) ⟨rfl, trivial⟩, H, hT⟩
      · refine WP.any ?_
        intro w9 hx; replace H := H.ext hx; replace hb7 := hb7.ext hx; replace hT := hT.ext hx; replace hcu := hcu.ext hx
        refine AL.p 0 (by kernel_rfl) rfl (mvP rfl) rfl ?_
        refine AL.p 2 (by kernel_rfl) rfl (mvL rfl) rfl ?_
        refine AL.p 3 (by kernel_rfl) rfl (mvI rfl) rfl ?_
        refine AL.p 4 (by kernel_rfl) rfl (ix rfl rfl rfl hj) rfl ?_
        refine AL.p 5 (by kernel_rfl) rfl (fa_el hl.1 rfl) rfl ?_
        refine AL.m 1 (by kernel_rfl) rfl (ldS_box rfl hb7 (Nat.le_of_ble_eq_true rfl) rfl) rfl ?_
        refine AL.m 6 (by kernel_rfl) rfl (ld_el rfl hl H rfl hj rfl) rfl ?_
        refine AL.o 7 (by kernel_rfl) rfl ?_
        -- call (*stagecoach/group.Group).Join (tmp 56) (tmp 57) (tmp 62)
        refine RL.call (gJoin _ _ i m G hT s l[j].rb hcu.own.sl (by have := hcu.len; omega)) rfl rfl ?_
        rintro _ w10 ⟨⟨rfl, hT2⟩, hx⟩
        replace H := Ext.upd H hx (xg_old hT (Nat.le_refl _)); replace hb7 := box_xg hb7 hT (by decide) hx
        replace hT := hT2; clear hT2
        refine RL.nil ?_
        refine AL.nil (by kernel_rfl) ?_
        refine WP.region ?_
        refine RL.r (mvI rfl) rfl ?_
        refine RL.r (add rfl rfl (by omega)) rfl ?_
        refine RL.r (asgI rfl) rfl ?_
        refine RL.nil ?_
        refine ⟨k - 1, by omega, j + 1, joinG G s.st l[j].rb, by omega, Head.intro (by repeat (first | with_reducible exact AgreeOff.mix _ _ _ | refine AgreeOff.look rfl ?_ | refine AgreeOff.mixs rfl ?_)) ⟨rfl, trivial⟩, H, hT⟩
    · refine WP.exit ?_
      refine WP.regionS ?_
      refine RL.build0 (α := Topic) w0.heap.size H.size rfl ?_
      intro w11 i64 hi64 hx hb64
      replace H := H.ext hx; replace hT := hT.ext hx; clear hx
      have hM := hb64
      refine RL.r (asgL rfl) rfl ?_
      refine RL.nil ?_
      refine WP.seq ?_
      refine WP.regionS ?_
      refine RL.r (asgI rfl) rfl ?_
      refine RL.nil ?_
      refine WP.block ?_
      refine WP.loop (fun k1 e' w' => ∃ j1 : Nat, ∃ (a8 : Option Addr) (c8_ : Nat) (M8 : List Topic),  j1 + k1 = min t.length 10 ∧ Head [8, 9, 65, 66, 67, 68, 69, 70, 71, 72, 73, 74, 75, 76, 77, 78, 79, 80, 81, 82, 83, 84, 85, 86, 87, 88, 89, 90, 91, 92, 93, 94, 95, 96] _ [(8, .slice a8 M8.length c8_), (9, .int .i64 (j1 : Int))] e' ∧ Ext w0 w' ∧ Tg w0.heap.size w' i m G ∧ Own w0.heap.size w' 58 a8 c8_ M8 ∧ M8.length ≤ j1) (min t.length 10)
        ⟨0, _, _, [], by omega, Head.intro (AgreeOff.refl _ _) ⟨rfl, rfl, trivial⟩, H, hT, hM, Nat.le_refl _⟩ ?_
      clear H hT hM
      rintro k1 e w12 ⟨j1, a8, c8_, M8, hjk1, ⟨jk1, rfl⟩, H, hT, hM, hMl⟩
      refine WP.seq ?_
      refine WP.seq (WP.quiet ?_)
      refine QL.r (mvI rfl) rfl ?_
      refine QL.r (mvL rfl) rfl ?_
      refine QL.r (len_sl rfl) rfl ?_
      refine QL.r (lss rfl rfl) rfl ?_
      refine QL.r (mvB rfl) rfl ?_
      refine QL.gg (gwT rfl rfl) (fun hg => (mvI rfl).does _) rfl ?_
      refine QL.gg (gwT rfl rfl) (fun hg => (lss (gs hg rfl) rfl).does _) rfl ?_
      refine QL.r (pickAnd rfl (fun hn => gs hn rfl)) rfl ?_
      refine QL.nil ?_; intro w13 hx; replace H := H.ext hx; replace hT := hT.ext hx; replace hM := hM.ext hx
      refine WP.cond rfl (fun hc => ?_) (fun hc => ?_)
      · refine WP.skip ?_
        refine WP.seq ?_
        refine WP.block ?_
        refine WP.any ?_
        intro w14 hx; replace H := H.ext hx; replace hT := hT.ext hx; replace hM := hM.ext hx
        refine AL.p 0 (by kernel_rfl) rfl (mvL rfl) rfl ?_
        refine AL.p 1 (by kernel_rfl) rfl (mvL rfl) rfl ?_
        refine AL.p 2 (by kernel_rfl) rfl (mvI rfl) rfl ?_
        have hj1 : j1 < t.length := by omega
        have ht := ht (List.ne_nil_of_length_pos (by omega))
        obtain ⟨p, rfl⟩ := ht.isAddr (by decide) hj1
        refine AL.p 3 (by kernel_rfl) rfl (ix rfl rfl rfl hj1) rfl ?_
        refine AL.p 4 (by kernel_rfl) rfl (fa_el ht.1 rfl) rfl ?_
        refine AL.p 6 (by kernel_rfl) rfl (mvL rfl) rfl ?_
        refine AL.p 7 (by kernel_rfl) rfl (mvI rfl) rfl ?_
        refine AL.p 8 (by kernel_rfl) rfl (ix rfl rfl rfl hj1) rfl ?_
        refine AL.p 9 (by kernel_rfl) rfl (fa_el ht.1 rfl) rfl ?_
        refine AL.p 14 (by kernel_rfl) rfl (mvL rfl) rfl ?_
        refine AL.p 15 (by kernel_rfl) rfl (mvI rfl) rfl ?_
        refine AL.p 16 (by kernel_rfl) rfl (ix rfl rfl rfl hj1) rfl ?_
        refine AL.p 17 (by kernel_rfl) rfl (fa_el ht.1 rfl) rfl ?_
        refine AL.m 5 (by kernel_rfl) rfl (ld_el rfl ht H rfl hj1 rfl) rfl ?_
        refine AL.m 10 (by kernel_rfl) rfl (ld_el rfl ht H rfl hj1 rfl) rfl ?_
        refine AL.p 11 (by kernel_rfl) rfl (len_str rfl) rfl ?_
        refine AL.p 12 (by kernel_rfl) rfl (min_i rfl rfl) rfl ?_
        refine AL.p 13 (by kernel_rfl) rfl (slcS (n := min t[j1].name.size 40) rfl rfl (by omega) (by omega)) rfl ?_
        refine AL.m 18 (by kernel_rfl) rfl (ld_el rfl ht H rfl hj1 rfl) rfl ?_
        refine AL.p 19 (by kernel_rfl) rfl (bld rfl rfl) rfl ?_
        refine AL.o 20 (by kernel_rfl) rfl ?_
        refine RL.buildSlice w0.heap.size H.size rfl rfl rfl rfl rfl ?_
        intro w15 i95 hi95 hx hb95
        replace H := H.ext hx; replace hT := hT.ext hx; replace hM := hM.ext hx; clear hx
        refine RL.nil ?_
        refine AL.o 21 (by kernel_rfl) rfl ?_
        refine RL.appendS rfl hM H.size rfl (show Sl _ _ [(⟨t[j1].name.extract 0 (min t[j1].name.size 40), t[j1].n⟩ : Topic)] from Box.sl1 hb95) rfl rfl (by decide) rfl cell1 (by omega) (by simp only [maxLen]; omega) rfl ?_
        intro w16 a96 c96 hu hb96 hfr96
        replace hT := hT.ow hM (by decide) (by decide) hu
        replace H := Ext.own H hM hu; clear hu
        refine RL.nil ?_
        refine AL.p 22 (by kernel_rfl) rfl (asgL rfl) rfl ?_
        refine AL.nil (by kernel_rfl) ?_
        refine WP.region ?_
        refine RL.r (mvI rfl) rfl ?_
        refine RL.r (add rfl rfl (by omega)) rfl ?_
        refine RL.r (asgI rfl) rfl ?_
        refine RL.nil ?_
        refine ⟨k1 - 1, by omega, j1 + 1, _, _, _, by omega, Head.intro (by repeat (first | with_reducible exact AgreeOff.mix _ _ _ | refine AgreeOff.look rfl ?_ | refine AgreeOff.mixs rfl ?_)) ⟨rfl, rfl, trivial⟩, H, hT, hb96, by rw [List.length_append]; simp only [List.length_cons, List.length_nil]; omega⟩
      · refine WP.exit ?_
        refine WP.regionS ?_
        refine RL.r (mvP rfl) rfl ?_
        -- call (*stagecoach/group.Group).Gen (tmp 98)
        have hMl10 : M8.length ≤ 10 := by omega
        have hok := hT.ok
        have hgn : 0 ≤ G.gen ∧ G.gen ≤ 1099511627776 := hok.num
        refine RL.call (gGen _ _ i m G hT) rfl rfl ?_
        rintro _ w17 ⟨rfl, hx⟩
        replace H := H.ext hx; replace hT := hT.ext hx; replace hM := hM.ext hx
        refine RL.r (mvU rfl) rfl ?_
        refine RL.r (ex0 rfl) rfl ?_
        refine RL.r (ex1 rfl) rfl ?_
        refine RL.r (asgI rfl) rfl ?_
        refine RL.r (asgB rfl) rfl ?_
        refine RL.nil ?_
        refine WP.regionS ?_
        refine RL.r (mvP rfl) rfl ?_
        -- call (*stagecoach/group.Group).Seats (tmp 102)
        have hs18 := H.size
        refine RL.call (gSeats _ _ i m G hT) rfl rfl ?_
        rintro v w18 ⟨⟨a12, c12, L, rfl, hL, hLm, hLo, _⟩, hx⟩
        replace H := H.ext hx; replace hT := hT.ext hx; replace hM := hM.ext hx
        replace hL := hL.mono hs18
        replace hLo := hLo.mono hs18
        have hL8 : L.length ≤ 8 := by rw [← List.length_map (f := Seat.st), hLm]; exact hok.len
        refine RL.build0 (α := Rw Part) w0.heap.size H.size rfl ?_
        intro w19 i104 hi104 hx hb104
        replace H := H.ext hx; replace hT := hT.ext hx; replace hM := hM.ext hx; replace hL := hL.ext hx; replace hLo := hLo.ext hx; clear hx
        have hA := hb104
        refine RL.r (asgL rfl) rfl ?_
        refine RL.r (asgL rfl) rfl ?_
        refine RL.nil ?_
        refine WP.seq ?_
        refine WP.regionS ?_
        refine RL.r (asgI rfl) rfl ?_
        refine RL.nil ?_
        refine WP.block ?_
        refine WP.loop (fun k2 e' w' => ∃ j2 : Nat, ∃ (a13 : Option Addr) (c13 : Nat) (g : List (Rw Part)),  j2 + k2 = L.length ∧ Head [4, 13, 14, 15, 16, 17, 18, 105, 106, 107, 108, 109, 110, 111, 112, 113, 114, 115, 116, 117, 118, 119, 120, 121, 122, 123, 124, 125, 126, 127, 128, 129, 130, 131, 132, 133, 134, 135, 136, 137, 138, 139, 140, 141, 142, 143, 144, 145, 146, 147, 148, 149, 150, 151, 152, 153] _ [(13, .slice a13 g.length c13), (14, .int .i64 (j2 : Int))] e' ∧ Ext w0 w' ∧ Tg w0.heap.size w' i m G ∧ Own w0.heap.size w' 58 a8 c8_ M8 ∧ Own w0.heap.size w' 31 a12 c12 L ∧ Owns w0.heap.size w' L ∧ Own w0.heap.size w' 60 a13 c13 g ∧ OwnsP w0.heap.size w' g ∧ rows g = told G M8 j2) (L.length)
          ⟨0, _, _, [], by omega, Head.intro (AgreeOff.refl _ _) ⟨rfl, rfl, trivial⟩, H, hT, hM, hL, hLo, hA, (fun r hr => by cases hr), rfl⟩ ?_
        clear H hT hM hL hLo hA
        rintro k2 e w20 ⟨j2, a13, c13, g, hjk2, ⟨jk2, rfl⟩, H, hT, hM, hL, hLo, hA, hAo, hg⟩
        have hgl : g.length ≤ 8 := by rw [rows_length hg]; unfold told; rw [List.length_map, List.length_take]; omega
        refine WP.seq ?_
        refine WP.regionS ?_
        refine RL.r (mvI rfl) rfl ?_
        refine RL.r (mvL rfl) rfl ?_
        refine RL.r (len_sl rfl) rfl ?_
        refine RL.r (lss rfl rfl) rfl ?_
        refine RL.nil ?_
        refine WP.cond rfl (fun hc => ?_) (fun hc => ?_)
        · refine WP.skip ?_
          refine WP.seq ?_
          refine WP.block ?_
          refine WP.regionS ?_
          refine RL.r (mvP rfl) rfl ?_
          refine RL.r (mvL rfl) rfl ?_
          refine RL.r (mvI rfl) rfl ?_
          have hj2 : j2 < L.length := by omega
          obtain ⟨hj2g, hnm, htp⟩ := L_at hLm hj2
          have hLs := hL.sl
          have hmem := List.getElem_mem hj2g
          obtain ⟨q, hq⟩ := hLs.isAddr (by decide) hj2
          subst hq
          refine RL.r (ix rfl rfl rfl hj2) rfl ?_
          refine RL.r (fa_el hLs.1 rfl) rfl ?_
          refine RL.r (fa_el hLs.1 rfl) rfl ?_
          refine RL.m (ld_el rfl hLs (Ext.refl _) rfl hj2 rfl) rfl ?_
          refine RL.r (mvI rfl) rfl ?_
          refine RL.r (mvL rfl) rfl ?_
          -- call (*stagecoach/group.Group).Assigned (tmp 112) (tmp 118) (tmp 119) (tmp 120)
          have hs21 := H.size
          refine RL.call (gAssigned _ _ i m G hT L[j2].name G.gen a8 c8_ M8 hM.sl) rfl rfl ?_
          rintro v w21 ⟨⟨a15, c15, rfl, hP⟩, hx⟩
          replace H := H.ext hx; replace hT := hT.ext hx; replace hM := hM.ext hx; replace hL := hL.ext hx; replace hLo := hLo.ext hx; replace hA := hA.ext hx; replace hAo := hAo.ext hx
          replace hP := hP.mono hs21
          refine RL.r (mvU rfl) rfl ?_
          refine RL.r (ex0 rfl) rfl ?_
          refine RL.r (ex1 rfl) rfl ?_
          refine RL.r (asgL rfl) rfl ?_
          refine RL.r (asgI rfl) rfl ?_
          refine RL.nil ?_
          refine WP.regionS ?_
          refine RL.r (mvP rfl) rfl ?_
          refine RL.r (mvL rfl) rfl ?_
          refine RL.r (mvI rfl) rfl ?_
          refine RL.r (ix rfl rfl rfl hj2) rfl ?_
          refine RL.r (fa_el hL.sl.1 rfl) rfl ?_
          refine RL.r (fa_el hL.sl.1 rfl) rfl ?_
          refine RL.m (ld_el rfl hL.sl (Ext.refl _) rfl hj2 rfl) rfl ?_
          refine RL.r (mvI rfl) rfl ?_
          refine RL.r (sub rfl rfl (by omega)) rfl ?_
          refine RL.r (mvL rfl) rfl ?_
          -- call (*stagecoach/group.Group).Assigned (tmp 125) (tmp 131) (tmp 133) (tmp 134)
          refine RL.call (gAssigned _ _ i m G hT L[j2].name (G.gen - 1) a8 c8_ M8 hM.sl) rfl rfl ?_
          rintro v w22 ⟨⟨a17, c17, rfl, _⟩, hx⟩
          replace H := H.ext hx; replace hT := hT.ext hx; replace hM := hM.ext hx; replace hL := hL.ext hx; replace hLo := hLo.ext hx; replace hA := hA.ext hx; replace hAo := hAo.ext hx; replace hP := hP.ext hx
          have hC := fun (w' : World) (hw' : Ext _ w') => rCheck w' a8 none c8_ 0 M8 [] (hM.sl.ext hw') rfl (fun x hx => by cases hx)
          refine RL.r (mvU rfl) rfl ?_
          refine RL.r (ex0 rfl) rfl ?_
          refine RL.r (ex1 rfl) rfl ?_
          refine RL.r (asgL rfl) rfl ?_
          refine RL.r (asgI rfl) rfl ?_
          refine RL.nil ?_
          refine WP.seq ?_
          refine WP.seq (WP.quiet ?_)
          refine QL.r (mvI rfl) rfl ?_
          refine QL.r (mvL rfl) rfl ?_
          -- call stagecoach/stagecoachref10.Check (tmp 139) (const (slice none 0 0))
          refine QL.call (fun w' hw' => hC w' hw') rfl rfl ?_
          refine QL.r (neq rfl rfl) rfl ?_
          refine QL.r (mvB rfl) rfl ?_
          refine QL.gg (gwF rfl rfl) (fun hg => (mvI rfl).does _) rfl ?_
          refine QL.gg (gwF rfl rfl) (fun hg => (eql (gs hg rfl) rfl).does _) rfl ?_
          refine QL.gg (gwF rfl rfl) (fun hg => (mvv (gs hg rfl)).does _) rfl ?_
          refine QL.gg (gwTT rfl rfl) (fun hg => (mvI rfl).does _) rfl ?_
          refine QL.gg (gwTT rfl rfl) (fun hg => (neq (gs hg rfl) rfl).does _) rfl ?_
          refine QL.gg (gwF rfl rfl) (fun hg => (pickAnd (gs hg rfl) (fun hn => gs ⟨hg, hn⟩ rfl)).does _) rfl ?_
          refine QL.r (pickOr rfl (fun hn => gs hn rfl)) rfl ?_
          refine QL.nil ?_; intro w24 hx; replace H := H.ext hx; replace hT := hT.ext hx; replace hM := hM.ext hx; replace hL := hL.ext hx; replace hLo := hLo.ext hx; replace hA := hA.ext hx; replace hAo := hAo.ext hx; replace hP := hP.ext hx
          refine WP.cond rfl (fun hc => ?_) (fun hc => ?_)
          · refine WP.regionS ?_
            refine RL.r (asgB rfl) rfl ?_
            refine RL.nil ?_
            refine WP.ret ?_
            refine fin1_ret rfl ⟨?_, H⟩
            exfalso
            have e1 := gv_here hok hmem M8
            rw [hnm] at e1
            rcases hc with h | ⟨h1, h2⟩
            · exact h e1
            · have e2 := gv_old hok hmem M8 (by rw [← e1]; exact h1)
              rw [hnm] at e2
              exact h2 e2
          · refine WP.skip ?_
            refine WP.region ?_
            refine RL.r (mvL rfl) rfl ?_
            refine RL.r (mvL rfl) rfl ?_
            refine RL.buildSlice w0.heap.size H.size rfl rfl rfl rfl rfl ?_
            intro w25 i152 hi152 hx hb152
            replace H := H.ext hx; replace hT := hT.ext hx; replace hM := hM.ext hx; replace hL := hL.ext hx; replace hLo := hLo.ext hx; replace hA := hA.ext hx; replace hAo := hAo.ext hx; replace hP := hP.ext hx; clear hx
            refine RL.appendS rfl hA H.size rfl (show Sl _ _ [(⟨a15, c15, gvP G L[j2].name G.gen M8⟩ : Rw Part)] from Box.sl1 hb152) rfl rfl (by decide) rfl cell1 (by omega) (by simp only [maxLen]; omega) rfl ?_
            intro w26 a153 c153 hu hb153 hfr153
            replace hT := hT.ow hA (by decide) (by decide) hu
            replace hM := ownow hM hA (by decide) hu
            replace hL := ownow hL hA (by decide) hu
            replace hP := ownow hP hA (by decide) hu
            replace hLo := hLo.ow hA (by decide) hu
            replace hAo := hAo.ow hA (by decide) hu
            replace H := Ext.own H hA hu; clear hu
            refine RL.r (asgL rfl) rfl ?_
            refine RL.nil ?_
            refine WP.region ?_
            refine RL.r (mvI rfl) rfl ?_
            refine RL.r (add rfl rfl (by omega)) rfl ?_
            refine RL.r (asgI rfl) rfl ?_
            refine RL.nil ?_
            refine ⟨k2 - 1, by omega, j2 + 1, _, _, _, by omega, Head.intro (by repeat (first | with_reducible exact AgreeOff.mix _ _ _ | refine AgreeOff.look rfl ?_ | refine AgreeOff.mixs rfl ?_)) ⟨rfl, rfl, trivial⟩, H, hT, hM, hL, hLo, hb153, ?_, by rw [told_s hj2g, ← hg, hnm]; simp [rows]⟩
            intro r hr
            rcases List.mem_append.1 hr with h | h
            · exact hAo r h
            · rw [List.mem_singleton.1 h]; exact hP
        · refine WP.exit ?_
          refine WP.seq ?_
          refine WP.regionS ?_
          refine RL.r (asgI rfl) rfl ?_
          refine RL.nil ?_
          refine WP.block ?_
          have hj2L : j2 = L.length := by omega
          have hLG : L.length = G.S.length := by rw [← hLm, List.length_map]
          rw [hj2L, hLG] at hg
          have hgL : g.length = G.S.length := by rw [rows_length hg]; unfold told; rw [List.length_map, List.take_length]
          have hgle : ∀ r ∈ g, r.l.length ≤ 64 := by
            intro r hr
            have hr2 : r.l ∈ told G M8 G.S.length := by rw [← hg]; exact List.mem_map.2 ⟨r, hr, rfl⟩
            obtain ⟨x, hx, e⟩ := List.mem_map.1 hr2
            rw [List.take_length] at hx
            obtain ⟨n, hn, rfl⟩ := List.getElem_of_mem hx
            rw [← e]
            exact gvP_le hok hn M8
          refine WP.loop (fun k3 e' w' => ∃ j3 : Nat,  j3 + k3 = g.length ∧ Head [4, 19, 20, 154, 155, 156, 157, 158, 159, 160, 161, 162, 163, 164, 165, 166, 167, 168, 169, 170, 171, 172, 173, 174, 175, 176, 177, 178, 179, 180, 181, 182, 183, 184, 185, 186, 187, 188, 189, 190, 191, 192, 193, 194, 195, 196] _ [(19, .int .i64 (j3 : Int))] e' ∧ Ext w0 w' ∧ Tg w0.heap.size w' i m G ∧ Own w0.heap.size w' 31 a12 c12 L ∧ Owns w0.heap.size w' L ∧ Own w0.heap.size w' 60 a13 c13 g ∧ OwnsP w0.heap.size w' g) (g.length)
            ⟨0, by omega, Head.intro (AgreeOff.refl _ _) ⟨rfl, trivial⟩, H, hT, hL, hLo, hA, hAo⟩ ?_
          clear H hT hM hL hLo hA hAo
          rintro k3 e w27 ⟨j3, hjk3, ⟨jk3, rfl⟩, H, hT, hL, hLo, hA, hAo⟩
          refine WP.seq ?_
          refine WP.regionS ?_
          refine RL.r (mvI rfl) rfl ?_
          refine RL.r (mvL rfl) rfl ?_
          refine RL.r (len_sl rfl) rfl ?_
          refine RL.r (lss rfl rfl) rfl ?_
          refine RL.nil ?_
          refine WP.cond rfl (fun hc => ?_) (fun hc => ?_)
          · refine WP.skip ?_
            refine WP.seq ?_
            refine WP.block ?_
            refine WP.regionS ?_
            refine RL.r (asgI rfl) rfl ?_
            refine RL.nil ?_
            refine WP.block ?_
            have hj3 : j3 < g.length := by omega
            have hr64 := hgle _ (List.getElem_mem hj3)
            refine WP.loop (fun k4 e' w' => ∃ j4 : Nat,  j4 + k4 = g[j3].l.length ∧ Head [4, 20, 160, 161, 162, 163, 164, 165, 166, 167, 168, 169, 170, 171, 172, 173, 174, 175, 176, 177, 178, 179, 180, 181, 182, 183, 184, 185, 186, 187, 188, 189, 190, 191, 192, 193, 194, 195, 196] _ [(20, .int .i64 (j4 : Int))] e' ∧ Ext w0 w' ∧ Tg w0.heap.size w' i m G ∧ Own w0.heap.size w' 31 a12 c12 L ∧ Owns w0.heap.size w' L ∧ Own w0.heap.size w' 60 a13 c13 g ∧ OwnsP w0.heap.size w' g) (g[j3].l.length)
              ⟨0, by omega, Head.intro (AgreeOff.refl _ _) ⟨rfl, trivial⟩, H, hT, hL, hLo, hA, hAo⟩ ?_
            clear H hT hL hLo hA hAo
            rintro k4 e w28 ⟨j4, hjk4, ⟨jk4, rfl⟩, H, hT, hL, hLo, hA, hAo⟩
            refine WP.seq ?_
            refine WP.regionS ?_
            refine RL.r (mvI rfl) rfl ?_
            refine RL.r (mvL rfl) rfl ?_
            refine RL.r (mvI rfl) rfl ?_
            have hAs := hA.sl
            have hG := hAo.gr hA
            have hrs := (hAo _ (List.getElem_mem hj3)).sl
            obtain ⟨q3, hq3⟩ := hAs.isAddr (by decide) hj3
            subst hq3
            refine RL.r (ix rfl rfl rfl hj3) rfl ?_
            refine RL.m (ld_e0 rfl hAs (Ext.refl _) rfl hj3 rfl) rfl ?_
            refine RL.r (len_sl rfl) rfl ?_
            refine RL.r (lss rfl rfl) rfl ?_
            refine RL.nil ?_
            refine WP.cond rfl (fun hc => ?_) (fun hc => ?_)
            · refine WP.skip ?_
              refine WP.seq ?_
              refine WP.block ?_
              refine WP.seq ?_
              refine WP.draw (by kernel_rfl) ?_
              refine QL.r (mvL rfl) rfl ?_
              refine QL.r (mvL rfl) rfl ?_
              refine QL.r (mvI rfl) rfl ?_
              have hj4 : j4 < g[j3].l.length := by omega
              have hj3L : j3 < L.length := by omega
              obtain ⟨hj3g, hnm, htp⟩ := L_at hLm hj3L
              have hgj : g[j3].l = gvP G G.S[j3].name G.gen M8 := by
                rw [rows_get hg hj3 (by unfold told; rw [List.length_map, List.take_length]; omega)]
                unfold told
                simp
              have hpt := told_part hok hj3g (x := g[j3].l[j4]) (by rw [← hgj]; exact List.getElem_mem hj4)
              rw [← hg] at hpt
              have hLs := hL.sl
              have htl := (hLo _ (List.getElem_mem hj3L)).sl
              have htl8 := top_le hok hLm _ (List.getElem_mem hj3L)
              obtain ⟨qL, hqL⟩ := hLs.isAddr (by decide) hj3L
              subst hqL
              have hV := fun (w' : World) (hw' : Ext _ w') => rWants w' L[j3].m g[j3].l[j4].topic (htl.ext hw') (by show L[j3].topics.length ≤ 1000; have := (hok.may _ (List.getElem_mem hj3g)).2.2.1; rw [htp] at this; omega)
              have hW := fun (w' : World) (hw' : Ext _ w') => rWhose w' _ c13 g g[j3].l[j4] ⟨hG.1.ext hw', fun r hr => (hG.2 r hr).ext hw'⟩ (by omega) (fun r hr => by have := hgle r hr; omega)
              obtain ⟨q4, hq4⟩ := hrs.isAddr (by decide) hj4
              have hrs4 := hrs
              rw [hq4] at hrs4
              refine QL.r (ix rfl rfl rfl hj3) rfl ?_
              refine QL.m (ld_e0 rfl hAs (Ext.refl _) rfl hj3 (hdr hq4)) rfl ?_
              refine QL.r (mvI rfl) rfl ?_
              refine QL.r (ix rfl rfl rfl hj4) rfl ?_
              refine QL.m (ldS_el rfl hrs4 (Ext.refl _) rfl rfl hj4) rfl ?_
              -- call stagecoach/stagecoachref10.Whose (tmp 169) (tmp 176)
              refine QL.call (fun w' hw' => hW w' hw') rfl rfl ?_
              refine QL.r (mvI rfl) rfl ?_
              refine QL.r (neq rfl rfl) rfl ?_
              refine QL.r (mvB rfl) rfl ?_
              refine QL.gg (gwF rfl rfl) (fun hg => (mvL rfl).does _) rfl ?_
              refine QL.gg (gwF rfl rfl) (fun hg => (mvI rfl).does _) rfl ?_
              refine QL.gg (gwF rfl rfl) (fun hg => (ix (gs hg rfl) (gs hg rfl) rfl hj3L).does _) rfl ?_
              refine QL.gg (gwF rfl rfl) (fun hg => (fa_el hLs.1 (gs hg rfl)).does _) rfl ?_
              refine QL.gg (gwF rfl rfl) (fun hg => ldS_ef (gs hg rfl) hLs (Ext.refl _) hj3L rfl (Nat.le_of_ble_eq_true rfl)) rfl ?_
              refine QL.gg (gwF rfl rfl) (fun hg => (mvL rfl).does _) rfl ?_
              refine QL.gg (gwF rfl rfl) (fun hg => (mvI rfl).does _) rfl ?_
              refine QL.gg (gwF rfl rfl) (fun hg => (ix (gs hg rfl) (gs hg rfl) rfl hj3).does _) rfl ?_
              refine QL.gg (gwF rfl rfl) (fun hg => ld_e0 (gs hg rfl) hAs (Ext.refl _) rfl hj3 (hdr hq4)) rfl ?_
              refine QL.gg (gwF rfl rfl) (fun hg => (mvI rfl).does _) rfl ?_
              refine QL.gg (gwF rfl rfl) (fun hg => (ix (gs hg rfl) (gs hg rfl) rfl hj4).does _) rfl ?_
              refine QL.gg (gwF rfl rfl) (fun hg => (fa_el hrs4.1 (gs hg rfl)).does _) rfl ?_
              refine QL.gg (gwF rfl rfl) (fun hg => ld_el (gs hg rfl) hrs4 (Ext.refl _) rfl hj4 rfl) rfl ?_
              -- call stagecoach/stagecoachref10.Wants (tmp 185) (tmp 193)
              refine QL.gcall (gwF rfl rfl) (fun hg w' hw' => hV w' hw') (fun hg => EvL.cons (gs hg rfl) (EvL.cons (gs hg rfl) (EvL.nil))) rfl ?_
              first | refine QL.gg (gwF rfl rfl) (fun hg => (notD (gs hg rfl)).does _) rfl ?_ | refine QL.gg (gwF rfl rfl) (fun hg => (not_ (gs hg rfl)).does _) rfl ?_
              refine QL.r (pickOr rfl (fun hn => gs hn rfl)) rfl ?_
              refine QL.nil ?_; intro w31 hx; replace H := H.ext hx; replace hT := hT.ext hx; replace hL := hL.ext hx; replace hLo := hLo.ext hx; replace hA := hA.ext hx; replace hAo := hAo.ext hx
              refine WP.cond rfl (fun hc => ?_) (fun hc => ?_)
              · refine WP.regionS ?_
                refine RL.r (asgB rfl) rfl ?_
                refine RL.nil ?_
                refine WP.ret ?_
                refine fin1_ret rfl ⟨?_, H⟩
                exfalso
                rcases hc with h | h
                · exact h hpt.1
                · exact h (by show g[j3].l[j4].topic ∈ L[j3].topics; rw [← htp]; exact hpt.2)
              · refine WP.skip ?_
                refine WP.region ?_
                refine RL.r (mvI rfl) rfl ?_
                refine RL.r (add rfl rfl (by omega)) rfl ?_
                refine RL.r (asgI rfl) rfl ?_
                refine RL.nil ?_
                refine ⟨k4 - 1, by omega, j4 + 1, by omega, Head.intro (by repeat (first | with_reducible exact AgreeOff.mix _ _ _ | refine AgreeOff.look rfl ?_ | refine AgreeOff.mixs rfl ?_)) ⟨rfl, trivial⟩, H, hT, hL, hLo, hA, hAo⟩
            · refine WP.exit ?_
              refine WP.region ?_
              refine RL.r (mvI rfl) rfl ?_
              refine RL.r (add rfl rfl (by omega)) rfl ?_
              refine RL.r (asgI rfl) rfl ?_
              refine RL.nil ?_
              refine ⟨k3 - 1, by omega, j3 + 1, by omega, Head.intro (by repeat (first | with_reducible exact AgreeOff.mix _ _ _ | refine AgreeOff.look rfl ?_ | refine AgreeOff.mixs rfl ?_)) ⟨rfl, trivial⟩, H, hT, hL, hLo, hA, hAo⟩
          · refine WP.exit ?_
            refine WP.regionS ?_
            -- call stagecoach/stagecoachlaw11.fixed 
            refine RL.call (lFixed _) rfl rfl ?_
            rintro _ w32 ⟨rfl, hx⟩
            replace H := H.ext hx; replace hT := hT.ext hx; replace hL := hL.ext hx; replace hLo := hLo.ext hx; replace hA := hA.ext hx; replace hAo := hAo.ext hx
            refine RL.r (asgB rfl) rfl ?_
            refine RL.nil ?_
            refine WP.ret ?_
            refine fin1_ret rfl ⟨rfl, H⟩
end Go.Proofs.Ytlkpgeopcdhgjaa
