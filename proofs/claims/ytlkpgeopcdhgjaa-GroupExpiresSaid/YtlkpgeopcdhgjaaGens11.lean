/-
  GroupGens: the plain law and the walk.
-/
import Derived.Test.YtlkpgeopcdhgjaaCut11
import Derived.Test.YtlkpgeopcdhgjaaModes11
import Derived.Test.YtlkpgeopcdhgjaaOpen11
set_option linter.unusedVariables false
namespace Go.Proofs.Ytlkpgeopcdhgjaa
open Go Go.Eng Go.RowKit
def ident (x : St) : ByteArray × List ByteArray := (x.name, x.topics)
noncomputable def stepG (G : Gs) (o : GOp) (s : St) : Gs := if o.kind = 0 then joinG G s o.rb else if o.kind = 1 then beatG G s.name o.gen o.now else if o.kind = 2 then leaveG G s.name o.gen else if o.kind = 3 then expG G o.now else G
theorem nextN_lt {n : Int} (h : n < 1099511627776) : nextN n = n + 1 := by unfold nextN; omega
theorem step_ok {G : Gs} (h : okG G) (o : GOp) (s : St) : okG (stepG G o s) := by
  unfold stepG
  split
  · exact okG_join h _ _
  · split
    · exact okG_beat h _ _ _
    · split
      · exact okG_leave h _ _
      · split
        · exact okG_exp h _
        · exact h
theorem ident_beat (name : ByteArray) (now : Int) (x : St) : ident (beat1 name now x) = ident x := by unfold beat1; split <;> rfl
theorem expG_gen {G : Gs} {now : Int} (hn : G.gen < 1099511627776) : ((expG G now).gen = G.gen ∧ (expG G now).S = G.S) ∨ (expG G now).gen = G.gen + 1 := by
  unfold expG
  by_cases h : 0 < (expL G now).length
  · right; simp only; rw [if_pos h, nextN_lt hn]
  · left
    simp only
    rw [if_neg h]
    refine ⟨rfl, ?_⟩
    have h0 : expL G now = [] := List.eq_nil_of_length_eq_zero (by omega)
    have h1 : G.S.filter (late now) = [] := List.map_eq_nil_iff.1 h0
    unfold expS
    rw [List.filter_eq_self]
    intro a ha
    have := List.filter_eq_nil_iff.1 h1 a ha
    simpa using this
theorem gens {G : Gs} (hn : G.gen < 1099511627776) (o : GOp) (s : St) : G.gen ≤ (stepG G o s).gen ∧ (stepG G o s).gen ≤ G.gen + 1 ∧ ((stepG G o s).gen = G.gen → (stepG G o s).S.map ident = G.S.map ident) ∧ (o.kind = 1 → (stepG G o s).gen = G.gen) := by
  unfold stepG
  split
  · rename_i h0
    unfold joinG
    split
    · refine ⟨by simp only; omega, by simp only; omega, fun h => ?_, fun h => ?_⟩
      · simp only at h; omega
      · omega
    · exact ⟨Int.le_refl _, by omega, fun _ => rfl, fun _ => rfl⟩
  · split
    · unfold beatG
      split
      · refine ⟨Int.le_refl _, by simp only; omega, fun _ => ?_, fun _ => rfl⟩
        show (beatS G.S s.name o.now).map ident = _
        unfold beatS
        rw [List.map_map]
        exact List.map_congr_left fun x _ => ident_beat _ _ x
      · exact ⟨Int.le_refl _, by omega, fun _ => rfl, fun _ => rfl⟩
    · split
      · rename_i h0 h1 h2
        unfold leaveG
        split
        · simp only
          rw [nextN_lt hn]
          exact ⟨by omega, by omega, fun h => by omega, fun h => by omega⟩
        · exact ⟨Int.le_refl _, by omega, fun _ => rfl, fun _ => rfl⟩
      · split
        · rename_i h0 h1 h2 h3
          rcases expG_gen (now := o.now) hn with ⟨h, hS⟩ | h
          · rw [h, hS]; exact ⟨Int.le_refl _, by omega, fun _ => rfl, fun _ => rfl⟩
          · rw [h]; exact ⟨by omega, by omega, fun h => by omega, fun h => by omega⟩
        · exact ⟨Int.le_refl _, by omega, fun _ => rfl, fun _ => rfl⟩
/-- are seats alike, as far as they were looked at? -/
def aliL (L1 L2 : List Seat) (j : Nat) : Prop := L1.length = L2.length ∧ ∀ (i : Nat) (h1 : i < L1.length) (h2 : i < L2.length), i < j → L1[i].name = L2[i].name ∧ L1[i].topics = L2[i].topics
theorem aliL_0 (L1 L2 : List Seat) : ((L1.length : Int) = (L2.length : Int)) ↔ aliL L1 L2 0 := ⟨fun h => ⟨by omega, fun i _ _ h => by omega⟩, fun h => by have := h.1; omega⟩
theorem aliL_s {L1 L2 : List Seat} {j : Nat} (h1 : j < L1.length) (h2 : j < L2.length) (h : aliL L1 L2 j) : (L1[j].name = L2[j].name ∧ L1[j].topics = L2[j].topics) ↔ aliL L1 L2 (j + 1) := by
  refine ⟨fun k => ⟨h.1, fun i a b hi => ?_⟩, fun k => k.2 j h1 h2 (by omega)⟩
  by_cases e : i = j
  · subst e; exact k
  · exact h.2 i a b (by omega)
theorem aliL_of {L1 L2 : List Seat} {S1 S2 : List St} (h1 : L1.map Seat.st = S1) (h2 : L2.map Seat.st = S2) (h : S2.map ident = S1.map ident) (j : Nat) : aliL L1 L2 j := by
  subst h1 h2
  rw [List.map_map, List.map_map] at h
  have hl := congrArg List.length h
  rw [List.length_map, List.length_map] at hl
  refine ⟨hl.symm, fun i a b _ => ?_⟩
  have e : (L2.map (ident ∘ Seat.st))[i]? = (L1.map (ident ∘ Seat.st))[i]? := by rw [h]
  rw [List.getElem?_map, List.getElem?_map, List.getElem?_eq_getElem a, List.getElem?_eq_getElem b] at e
  have e2 := Option.some.inj e
  exact ⟨(congrArg Prod.fst e2).symm, (congrArg Prod.snd e2).symm⟩
theorem CutO.bx {B B' b : Nat} {w w' : World} {s : Seat} {T : TypeId} {cs : List Value} (h : CutO B w s) (hb : Box B' w b T cs) (hT : 9 ≠ T) (k : Upd (· = b) w w') : CutO B w' s := ⟨ownbx h.own hb hT k, h.len, h.txt, h.nm⟩
theorem top_le {G : Gs} {L : List Seat} (h : okG G) (hm : L.map Seat.st = G.S) : ∀ x ∈ L, x.topics.length ≤ 100000 := fun x hx => by
  have h2 : x.st ∈ G.S := by rw [← hm]; exact List.mem_map_of_mem hx
  have := (h.may _ h2).2.2.1
  show x.st.topics.length ≤ 100000
  omega
set_option maxRecDepth 20000 in
set_option maxHeartbeats 1600000 in
theorem lGens (w0 : World) (a : Option Addr) (c : Nat) (l : List GOp) (hl : SlI w0 a l) (hin : ∀ x ∈ l, inSeat w0 x.s) :
    Ct Try.prog 7 #[.slice a l.length c] w0 fun v w' => v = .bool true ∧ Ext w0 w' := by
  refine Ct.intro1 Try.func7 Try.ntmps7 rfl rfl (by decide) rfl ?_
  have H : Ext w0 w0 := Ext.refl w0
  refine WP.regionS ?_
  refine RL.r (asgB rfl) rfl ?_
  refine RL.nil ?_
  refine WP.regionS ?_
  -- call stagecoach/group.New 
  refine RL.call (gNew _) rfl rfl ?_
  rintro v w1 ⟨⟨i, m, rfl, hT⟩, hx⟩
  replace H := H.ext hx
  refine RL.r (asgP rfl) rfl ?_
  refine RL.nil ?_
  refine WP.seq ?_
  refine WP.regionS ?_
  refine RL.r (mvP rfl) rfl ?_
  refine RL.r (peqn rfl rfl) rfl ?_
  refine RL.nil ?_
  refine WP.cond rfl (fun hc => ?_) (fun hc => ?_)
  · refine WP.regionS ?_
    refine RL.r (asgB rfl) rfl ?_
    refine RL.nil ?_
    refine WP.ret ?_
    refine fin1_ret rfl ⟨absurd hc (by simp), H⟩
  · refine WP.skip ?_
    refine WP.seq ?_
    refine WP.regionS ?_
    refine RL.r (asgI rfl) rfl ?_
    refine RL.nil ?_
    refine WP.block ?_
    refine WP.loop (fun k e' w' => ∃ j : Nat, ∃ G : Gs,  j + k = min l.length 60 ∧ Head [2, 4, 5, 6, 7, 8, 9, 10, 11, 12, 13, 14, 18, 19, 20, 21, 22, 23, 24, 25, 26, 27, 28, 29, 30, 31, 32, 33, 34, 35, 36, 37, 38, 39, 40, 41, 42, 43, 44, 45, 46, 47, 48, 49, 50, 51, 52, 53, 54, 55, 56, 57, 58, 59, 60, 61, 62, 63, 64, 65, 66, 67, 68, 69, 70, 71, 72, 73, 74, 75, 76, 77, 78, 79, 80, 81, 82, 83, 84, 85, 86, 87, 88, 89, 90, 91, 92, 93, 94, 95, 96, 97, 98, 99, 100, 101, 102, 103, 104, 105, 106, 107, 108, 109, 110, 111, 112, 113, 114, 115, 116, 117, 118, 119, 120, 121, 122, 123, 124, 125, 126, 127, 128, 129, 130, 131, 132, 133, 134, 135, 136, 137, 138, 139, 140, 141, 142, 143, 144, 145, 146, 147, 148, 149, 150, 151, 152, 153] _ [(4, .int .i64 (j : Int))] e' ∧ Ext w0 w' ∧ Tg w0.heap.size w' i m G ∧ G.gen ≤ (j : Int)) (min l.length 60)
      ⟨0, g0, by omega, Head.intro (AgreeOff.refl _ _) ⟨rfl, trivial⟩, H, hT, Int.le_refl _⟩ ?_
    clear H hT
    rintro k e w2 ⟨j, G, hjk, ⟨jk, rfl⟩, H, hT, hgj⟩
    have hT0 := hT.ok
    have hgn0 : 0 ≤ G.gen := hT.ok.num.1
    refine WP.seq ?_
    refine WP.seq (WP.quiet ?_)
    refine QL.r (mvI rfl) rfl ?_
    refine QL.r (mvL rfl) rfl ?_
    refine QL.r (len_sl rfl) rfl ?_
    refine QL.r (lss rfl rfl) rfl ?_
    refine QL.r (mvB rfl) rfl ?_
    refine QL.gg (gwT rfl rfl) (fun hg => (mvI rfl).does _) rfl ?_
    refine QL.gg (gwT rfl rfl) (fun hg => (lss (gs hg rfl) rfl).does _) rfl ?_
    refine QL.r (pickAnd rfl (fun hn => gs hn rfl)) rfl ?_
    refine QL.nil ?_; intro w3 hx; replace H := H.ext hx; replace hT := hT.ext hx
    refine WP.cond rfl (fun hc => ?_) (fun hc => ?_)
    · refine WP.skip ?_
      refine WP.seq ?_
      refine WP.block ?_
      refine WP.regionS ?_
      refine RL.r (mvL rfl) rfl ?_
      refine RL.r (mvI rfl) rfl ?_
      have hj : j < l.length := by omega
      have hinj := hin _ (List.getElem_mem hj)
      have hl := hl (List.ne_nil_of_length_pos (by omega))
      obtain ⟨p, rfl⟩ := hl.isAddr (by decide) hj
      refine RL.r (ix rfl rfl rfl hj) rfl ?_
      refine RL.m (ldS_el rfl hl H rfl rfl hj) rfl ?_
      refine RL.alloc w0.heap.size H.size rfl rfl ?_
      intro w4 i5 hi5 hx hb5
      refine RL.storeS rfl hb5 rfl rfl rfl rfl ?_
      intro w5 hu hb5
      replace hx := hx.box hu (Nat.le_of_eq hi5.symm)
      replace H := H.ext hx; replace hT := hT.ext hx; clear hx hu
      refine RL.nil ?_
      refine WP.regionS ?_
      refine RL.r (fa_box rfl) rfl ?_
      refine RL.m (ldS_box rfl hb5 (Nat.le_of_ble_eq_true rfl) rfl) rfl ?_
      -- call stagecoach/stagecoachlaw11.Cut (tmp 33)
      have hs5 := H.size
      refine RL.call (lCut _ l[j].s (fun h => (hinj.1 h).ext H)) rfl rfl ?_
      rintro v w6 ⟨⟨s, rfl, hcu⟩, hx⟩
      replace H := H.ext hx; replace hb5 := hb5.ext hx; replace hT := hT.ext hx
      refine RL.alloc w0.heap.size H.size rfl rfl ?_
      intro w7 i6 hi6 hx hb6
      have ne5_6 := hb5.ne hi6
      refine RL.storeS rfl hb6 rfl rfl rfl rfl ?_
      intro w8 hu hb6
      replace hx := hx.box hu (Nat.le_of_eq hi6.symm)
      replace H := H.ext hx; replace hb5 := hb5.ext hx; replace hT := hT.ext hx; replace hcu := hcu.ext hx; clear hx hu
      refine RL.nil ?_
      refine WP.regionS ?_
      refine RL.r (mvP rfl) rfl ?_
      -- call (*stagecoach/group.Group).Gen (tmp 36)
      refine RL.call (gGen _ _ i m G hT) rfl rfl ?_
      rintro _ w9 ⟨rfl, hx⟩
      replace H := H.ext hx; replace hb5 := hb5.ext hx; replace hb6 := hb6.ext hx; replace hT := hT.ext hx; replace hcu := hcu.ext hx
      refine RL.r (mvU rfl) rfl ?_
      refine RL.r (ex0 rfl) rfl ?_
      refine RL.r (ex1 rfl) rfl ?_
      refine RL.r (asgI rfl) rfl ?_
      refine RL.r (asgB rfl) rfl ?_
      refine RL.nil ?_
      refine WP.regionS ?_
      refine RL.r (mvP rfl) rfl ?_
      -- call (*stagecoach/group.Group).Seats (tmp 40)
      have hs9 := H.size
      refine RL.call (gSeats _ _ i m G hT) rfl rfl ?_
      rintro v w10 ⟨⟨a9, c9, L1, rfl, hL1, hm1, ho1, _⟩, hx⟩
      replace H := H.ext hx; replace hb5 := hb5.ext hx; replace hb6 := hb6.ext hx; replace hT := hT.ext hx; replace hcu := hcu.ext hx
      replace hL1 := hL1.mono hs9
      replace ho1 := ho1.mono hs9
      have hL8 : L1.length ≤ 8 := by rw [← List.length_map (f := Seat.st), hm1]; exact hT0.len
      refine RL.r (asgL rfl) rfl ?_
      refine RL.nil ?_
      refine WP.seq ?_
      refine WP.regionS ?_
      refine RL.r (fa_box rfl) rfl ?_
      refine RL.m (ld_box rfl hb5 rfl) rfl ?_
      refine RL.nil ?_
      refine WP.cut (α := Unit) [44, 45, 46, 47, 48, 49, 50, 51, 52, 53, 54, 55, 56, 57, 58, 59, 60, 61, 62, 63, 64, 65, 66, 67, 68, 69, 70, 71, 72, 73, 74, 75, 76] (fun x => []) (fun x w' => Ext w0 w' ∧ Box w0.heap.size w' i5 44 (Lies.enc l[j]) ∧ Box w0.heap.size w' i6 31 (Lies.enc s) ∧ Tg w0.heap.size w' i m (stepG G l[j] s.st) ∧ Own w0.heap.size w' 31 a9 c9 L1 ∧ Owns w0.heap.size w' L1) ?_ ?_
      · refine WP.block ?_
        refine WP.regionS ?_
        refine RL.r (eql rfl rfl) rfl ?_
        refine RL.r (asgB rfl) rfl ?_
        refine RL.nil ?_
        refine WP.cond rfl (fun hc => ?_) (fun hc => ?_)
        · refine WP.region ?_
          refine RL.r (mvP rfl) rfl ?_
          refine RL.m (ldS_box rfl hb6 (Nat.le_of_ble_eq_true rfl) rfl) rfl ?_
          refine RL.r (fa_box rfl) rfl ?_
          refine RL.m (ld_box rfl hb5 rfl) rfl ?_
          -- call (*stagecoach/group.Group).Join (tmp 46) (tmp 47) (tmp 49)
          refine RL.call (gJoin _ _ i m G hT s l[j].rb hcu.own.sl (by have := hcu.len; omega)) rfl rfl ?_
          rintro _ w11 ⟨⟨rfl, hT2⟩, hx⟩
          replace H := Ext.upd H hx (xg_old hT (Nat.le_refl _)); replace hb5 := box_xg hb5 hT (by decide) hx; replace hb6 := box_xg hb6 hT (by decide) hx; replace hL1 := own_xg hL1 hT (by decide) hx; replace ho1 := owns_xg hT ho1 hx
          replace hT := hT2; clear hT2
          refine RL.nil ?_
          refine ⟨(), Head.intro (by repeat (first | with_reducible exact AgreeOff.refl _ _ | with_reducible exact AgreeOff.mix _ _ _ | refine AgreeOff.look rfl ?_ | refine AgreeOff.mixs rfl ?_)) trivial, H, hb5, hb6, (by have h := hT; unfold stepG; rw [if_pos (by assumption)]; exact h), hL1, ho1⟩
        · refine WP.regionS ?_
          refine RL.r (eql rfl rfl) rfl ?_
          refine RL.r (asgB rfl) rfl ?_
          refine RL.nil ?_
          refine WP.cond rfl (fun hc => ?_) (fun hc => ?_)
          · refine WP.region ?_
            refine RL.r (mvP rfl) rfl ?_
            refine RL.r (fa_box rfl) rfl ?_
            refine RL.r (fa_box rfl) rfl ?_
            refine RL.m (ld_box rfl hb6 rfl) rfl ?_
            refine RL.r (fa_box rfl) rfl ?_
            refine RL.m (ld_box rfl hb5 rfl) rfl ?_
            refine RL.r (fa_box rfl) rfl ?_
            refine RL.m (ld_box rfl hb5 rfl) rfl ?_
            -- call (*stagecoach/group.Group).Beat (tmp 53) (tmp 56) (tmp 58) (tmp 60)
            refine RL.call (gBeat _ _ i m G hT s.name l[j].gen l[j].now) rfl rfl ?_
            rintro _ w12 ⟨⟨rfl, hT2⟩, hx⟩
            replace H := Ext.upd H hx (xg_old hT (Nat.le_refl _)); replace hb5 := box_xg hb5 hT (by decide) hx; replace hb6 := box_xg hb6 hT (by decide) hx; replace hL1 := own_xg hL1 hT (by decide) hx; replace ho1 := owns_xg hT ho1 hx
            replace hT := hT2; clear hT2
            refine RL.nil ?_
            refine ⟨(), Head.intro (by repeat (first | with_reducible exact AgreeOff.refl _ _ | with_reducible exact AgreeOff.mix _ _ _ | refine AgreeOff.look rfl ?_ | refine AgreeOff.mixs rfl ?_)) trivial, H, hb5, hb6, (by have h := hT; unfold stepG; rw [if_neg (by assumption)]; rw [if_pos (by assumption)]; exact h), hL1, ho1⟩
          · refine WP.regionS ?_
            refine RL.r (eql rfl rfl) rfl ?_
            refine RL.r (asgB rfl) rfl ?_
            refine RL.nil ?_
            refine WP.cond rfl (fun hc => ?_) (fun hc => ?_)
            · refine WP.region ?_
              refine RL.r (mvP rfl) rfl ?_
              refine RL.r (fa_box rfl) rfl ?_
              refine RL.r (fa_box rfl) rfl ?_
              refine RL.m (ld_box rfl hb6 rfl) rfl ?_
              refine RL.r (fa_box rfl) rfl ?_
              refine RL.m (ld_box rfl hb5 rfl) rfl ?_
              -- call (*stagecoach/group.Group).Leave (tmp 64) (tmp 67) (tmp 69)
              refine RL.call (gLeave _ _ i m G hT s.name l[j].gen) rfl rfl ?_
              rintro _ w13 ⟨⟨rfl, hT2⟩, hx⟩
              replace H := Ext.upd H hx (xg_old hT (Nat.le_refl _)); replace hb5 := box_xg hb5 hT (by decide) hx; replace hb6 := box_xg hb6 hT (by decide) hx; replace hL1 := own_xg hL1 hT (by decide) hx; replace ho1 := owns_xg hT ho1 hx
              replace hT := hT2; clear hT2
              refine RL.nil ?_
              refine ⟨(), Head.intro (by repeat (first | with_reducible exact AgreeOff.refl _ _ | with_reducible exact AgreeOff.mix _ _ _ | refine AgreeOff.look rfl ?_ | refine AgreeOff.mixs rfl ?_)) trivial, H, hb5, hb6, (by have h := hT; unfold stepG; rw [if_neg (by assumption)]; rw [if_neg (by assumption)]; rw [if_pos (by assumption)]; exact h), hL1, ho1⟩
            · refine WP.regionS ?_
              refine RL.r (eql rfl rfl) rfl ?_
              refine RL.r (asgB rfl) rfl ?_
              refine RL.nil ?_
              refine WP.cond rfl (fun hc => ?_) (fun hc => ?_)
              · refine WP.region ?_
                refine RL.r (mvP rfl) rfl ?_
                refine RL.r (fa_box rfl) rfl ?_
                refine RL.m (ld_box rfl hb5 rfl) rfl ?_
                -- call (*stagecoach/group.Group).Expire (tmp 73) (tmp 75)
                refine RL.call (gExpire _ _ i m G hT l[j].now) rfl rfl ?_
                rintro v w14 ⟨⟨⟨a14, c14, rfl, _⟩, hT2⟩, hx⟩
                replace H := Ext.upd H hx (xg_old hT (Nat.le_refl _)); replace hb5 := box_xg hb5 hT (by decide) hx; replace hb6 := box_xg hb6 hT (by decide) hx; replace hL1 := own_xg hL1 hT (by decide) hx; replace ho1 := owns_xg hT ho1 hx
                replace hT := hT2; clear hT2
                refine RL.nil ?_
                refine ⟨(), Head.intro (by repeat (first | with_reducible exact AgreeOff.refl _ _ | with_reducible exact AgreeOff.mix _ _ _ | refine AgreeOff.look rfl ?_ | refine AgreeOff.mixs rfl ?_)) trivial, H, hb5, hb6, (by have h := hT; unfold stepG; rw [if_neg (by assumption)]; rw [if_neg (by assumption)]; rw [if_neg (by assumption)]; rw [if_pos (by assumption)]; exact h), hL1, ho1⟩
              · refine WP.skip ?_
                refine ⟨(), Head.intro (by repeat (first | with_reducible exact AgreeOff.refl _ _ | with_reducible exact AgreeOff.mix _ _ _ | refine AgreeOff.look rfl ?_ | refine AgreeOff.mixs rfl ?_)) trivial, H, hb5, hb6, (by have h := hT; unfold stepG; rw [if_neg (by assumption)]; rw [if_neg (by assumption)]; rw [if_neg (by assumption)]; rw [if_neg (by assumption)]; exact h), hL1, ho1⟩
      rintro _ jc w15 ⟨H, hb5, hb6, hT, hL1, ho1⟩
      have hgn := gens (G := G) (by omega) l[j] s.st
      refine WP.regionS ?_
      refine RL.r (mvP rfl) rfl ?_
      -- call (*stagecoach/group.Group).Gen (tmp 78)
      refine RL.call (gGen _ _ i m _ hT) rfl rfl ?_
      rintro _ w16 ⟨rfl, hx⟩
      replace H := H.ext hx; replace hb5 := hb5.ext hx; replace hb6 := hb6.ext hx; replace hT := hT.ext hx; replace hL1 := hL1.ext hx; replace ho1 := ho1.ext hx
      refine RL.r (mvU rfl) rfl ?_
      refine RL.r (ex0 rfl) rfl ?_
      refine RL.r (ex1 rfl) rfl ?_
      refine RL.r (asgI rfl) rfl ?_
      refine RL.r (asgB rfl) rfl ?_
      refine RL.nil ?_
      refine WP.regionS ?_
      refine RL.r (mvP rfl) rfl ?_
      -- call (*stagecoach/group.Group).Seats (tmp 82)
      have hs16 := H.size
      refine RL.call (gSeats _ _ i m _ hT) rfl rfl ?_
      rintro v w17 ⟨⟨a12, c12, L2, rfl, hL2, hm2, ho2, _⟩, hx⟩
      replace H := H.ext hx; replace hb5 := hb5.ext hx; replace hb6 := hb6.ext hx; replace hT := hT.ext hx; replace hL1 := hL1.ext hx; replace ho1 := ho1.ext hx
      replace hL2 := hL2.mono hs16
      replace ho2 := ho2.mono hs16
      refine RL.r (asgL rfl) rfl ?_
      refine RL.nil ?_
      refine WP.regionS ?_
      refine RL.r (mvL rfl) rfl ?_
      refine RL.r (len_sl rfl) rfl ?_
      refine RL.r (mvL rfl) rfl ?_
      refine RL.r (len_sl rfl) rfl ?_
      refine RL.r (eql rfl rfl) rfl ?_
      refine RL.r (asgB rfl) rfl ?_
      refine RL.nil ?_
      refine WP.seq ?_
      refine WP.regionS ?_
      refine RL.r (asgI rfl) rfl ?_
      refine RL.nil ?_
      refine WP.block ?_
      refine WP.loop (fun k1 e' w' => ∃ j1 : Nat, ∃ (pp : Prop) (dp : Decidable pp),  j1 + k1 = L1.length ∧ Head [13, 14, 89, 90, 91, 92, 93, 94, 95, 96, 97, 98, 99, 100, 101, 102, 103, 104, 105, 106, 107, 108, 109, 110, 111, 112, 113, 114, 115, 116, 117, 118, 119, 120, 121, 122, 123, 124, 125] _ [(13, .bool (decide pp)), (14, .int .i64 (j1 : Int))] e' ∧ Ext w0 w' ∧ Box w0.heap.size w' i5 44 (Lies.enc l[j]) ∧ Box w0.heap.size w' i6 31 (Lies.enc s) ∧ Tg w0.heap.size w' i m (stepG G l[j] s.st) ∧ Own w0.heap.size w' 31 a9 c9 L1 ∧ Owns w0.heap.size w' L1 ∧ Own w0.heap.size w' 31 a12 c12 L2 ∧ Owns w0.heap.size w' L2 ∧ (pp ↔ aliL L1 L2 j1)) (L1.length)
        ⟨0, _, _, by omega, Head.intro (AgreeOff.refl _ _) ⟨rfl, rfl, trivial⟩, H, hb5, hb6, hT, hL1, ho1, hL2, ho2, aliL_0 L1 L2⟩ ?_
      clear H hb5 hb6 hT hL1 ho1 hL2 ho2
      rintro k1 e w18 ⟨j1, pp, dp, hjk1, ⟨jk1, rfl⟩, H, hb5, hb6, hT, hL1, ho1, hL2, ho2, hpp⟩
      refine WP.seq ?_
      refine WP.seq (WP.quiet ?_)
      refine QL.r (mvI rfl) rfl ?_
      refine QL.r (mvL rfl) rfl ?_
      refine QL.r (len_sl rfl) rfl ?_
      refine QL.r (lss rfl rfl) rfl ?_
      refine QL.r (mvB rfl) rfl ?_
      refine QL.gg (gwT rfl rfl) (fun hg => (mvB rfl).does _) rfl ?_
      refine QL.r (pickAnd rfl (fun hn => gs hn rfl)) rfl ?_
      refine QL.nil ?_; intro w19 hx; replace H := H.ext hx; replace hb5 := hb5.ext hx; replace hb6 := hb6.ext hx; replace hT := hT.ext hx; replace hL1 := hL1.ext hx; replace ho1 := ho1.ext hx; replace hL2 := hL2.ext hx; replace ho2 := ho2.ext hx
      refine WP.cond rfl (fun hc => ?_) (fun hc => ?_)
      · refine WP.skip ?_
        refine WP.seq ?_
        refine WP.block ?_
        refine WP.draw (by kernel_rfl) ?_
        refine QL.r (mvL rfl) rfl ?_
        refine QL.r (mvI rfl) rfl ?_
        have hj1 : j1 < L1.length := by omega
        have hal := hpp.1 hc.2
        have hj2 : j1 < L2.length := by have := hal.1; omega
        have hL1s := hL1.sl
        have hL2s := hL2.sl
        have ht1 := (ho1 _ (List.getElem_mem hj1)).sl
        have ht2 := (ho2 _ (List.getElem_mem hj2)).sl
        have hle1 := top_le hT0 hm1 _ (List.getElem_mem hj1)
        have hC := fun (w' : World) (hw' : Ext _ w') => rTexts w' _ _ L1[j1].tc L2[j1].tc _ _ (ht1.ext hw') (ht2.ext hw') hle1
        obtain ⟨q1, hq1⟩ := hL1s.isAddr (by decide) hj1
        obtain ⟨q2, hq2⟩ := hL2s.isAddr (by decide) hj2
        subst hq1
        subst hq2
        refine QL.r (ix rfl rfl rfl hj1) rfl ?_
        refine QL.r (fa_el hL1s.1 rfl) rfl ?_
        refine QL.r (fa_el hL1s.1 rfl) rfl ?_
        refine QL.m (ld_el rfl hL1s (Ext.refl _) rfl hj1 rfl) rfl ?_
        refine QL.r (mvL rfl) rfl ?_
        refine QL.r (mvI rfl) rfl ?_
        refine QL.r (ix rfl rfl rfl hj2) rfl ?_
        refine QL.r (fa_el hL2s.1 rfl) rfl ?_
        refine QL.r (fa_el hL2s.1 rfl) rfl ?_
        refine QL.m (ld_el rfl hL2s (Ext.refl _) rfl hj2 rfl) rfl ?_
        refine QL.r (seql rfl rfl) rfl ?_
        refine QL.r (mvB rfl) rfl ?_
        refine QL.gg (gwT rfl rfl) (fun hg => (mvL rfl).does _) rfl ?_
        refine QL.gg (gwT rfl rfl) (fun hg => (mvI rfl).does _) rfl ?_
        refine QL.gg (gwT rfl rfl) (fun hg => (ix (gs hg rfl) (gs hg rfl) rfl hj1).does _) rfl ?_
        refine QL.gg (gwT rfl rfl) (fun hg => (fa_el hL1s.1 (gs hg rfl)).does _) rfl ?_
        refine QL.gg (gwT rfl rfl) (fun hg => (fa_el hL1s.1 (gs hg rfl)).does _) rfl ?_
        refine QL.gg (gwT rfl rfl) (fun hg => ld_el (gs hg rfl) hL1s (Ext.refl _) rfl hj1 rfl) rfl ?_
        refine QL.gg (gwT rfl rfl) (fun hg => (mvL rfl).does _) rfl ?_
        refine QL.gg (gwT rfl rfl) (fun hg => (mvI rfl).does _) rfl ?_
        refine QL.gg (gwT rfl rfl) (fun hg => (ix (gs hg rfl) (gs hg rfl) rfl hj2).does _) rfl ?_
        refine QL.gg (gwT rfl rfl) (fun hg => (fa_el hL2s.1 (gs hg rfl)).does _) rfl ?_
        refine QL.gg (gwT rfl rfl) (fun hg => (fa_el hL2s.1 (gs hg rfl)).does _) rfl ?_
        refine QL.gg (gwT rfl rfl) (fun hg => ld_el (gs hg rfl) hL2s (Ext.refl _) rfl hj2 rfl) rfl ?_
        -- call stagecoach/stagecoachref04.Texts (tmp 117) (tmp 123)
        refine QL.gcall (gwT rfl rfl) (fun hg w' hw' => hC w' hw') (fun hg => EvL.cons (gs hg rfl) (EvL.cons (gs hg rfl) (EvL.nil))) rfl ?_
        refine QL.r (pickAnd rfl (fun hn => gs hn rfl)) rfl ?_
        refine QL.r (asgB rfl) rfl ?_
        refine QL.nil ?_; intro w21 hx; replace H := H.ext hx; replace hb5 := hb5.ext hx; replace hb6 := hb6.ext hx; replace hT := hT.ext hx; replace hL1 := hL1.ext hx; replace ho1 := ho1.ext hx; replace hL2 := hL2.ext hx; replace ho2 := ho2.ext hx
        refine WP.region ?_
        refine RL.r (mvI rfl) rfl ?_
        refine RL.r (add rfl rfl (by omega)) rfl ?_
        refine RL.r (asgI rfl) rfl ?_
        refine RL.nil ?_
        refine ⟨k1 - 1, by omega, j1 + 1, _, _, by omega, Head.intro (by repeat (first | with_reducible exact AgreeOff.mix _ _ _ | refine AgreeOff.look rfl ?_ | refine AgreeOff.mixs rfl ?_)) ⟨rfl, rfl, trivial⟩, H, hb5, hb6, hT, hL1, ho1, hL2, ho2, aliL_s hj1 hj2 hal⟩
      · refine WP.exit ?_
        refine WP.seq (WP.quiet ?_)
        refine QL.r (mvI rfl) rfl ?_
        refine QL.r (mvI rfl) rfl ?_
        refine QL.r (lss rfl rfl) rfl ?_
        refine QL.r (mvB rfl) rfl ?_
        refine QL.gg (gwF rfl rfl) (fun hg => (mvI rfl).does _) rfl ?_
        refine QL.gg (gwF rfl rfl) (fun hg => (mvI rfl).does _) rfl ?_
        refine QL.gg (gwF rfl rfl) (fun hg => (add (gs hg rfl) rfl (by omega)).does _) rfl ?_
        refine QL.gg (gwF rfl rfl) (fun hg => (gtr (gs hg rfl) (gs hg rfl)).does _) rfl ?_
        refine QL.r (pickOr rfl (fun hn => gs hn rfl)) rfl ?_
        refine QL.r (mvB rfl) rfl ?_
        refine QL.gg (gwF rfl rfl) (fun hg => (mvB rfl).does _) rfl ?_
        first | refine QL.gg (gwF rfl rfl) (fun hg => (notD (gs hg rfl)).does _) rfl ?_ | refine QL.gg (gwF rfl rfl) (fun hg => (not_ (gs hg rfl)).does _) rfl ?_
        refine QL.gg (gwF rfl rfl) (fun hg => (mvv (gs hg rfl)).does _) rfl ?_
        refine QL.gg (gwTT rfl rfl) (fun hg => (mvI rfl).does _) rfl ?_
        refine QL.gg (gwTT rfl rfl) (fun hg => (mvI rfl).does _) rfl ?_
        refine QL.gg (gwTT rfl rfl) (fun hg => (eql (gs hg rfl) (gs hg rfl)).does _) rfl ?_
        refine QL.gg (gwF rfl rfl) (fun hg => (pickAnd (gs hg rfl) (fun hn => gs ⟨hg, hn⟩ rfl)).does _) rfl ?_
        refine QL.r (pickOr rfl (fun hn => gs hn rfl)) rfl ?_
        refine QL.r (mvB rfl) rfl ?_
        refine QL.gg (gwF rfl rfl) (fun hg => (fa_box rfl).does _) rfl ?_
        refine QL.gg (gwF rfl rfl) (fun hg => ld_box (gs hg rfl) hb5 rfl) rfl ?_
        refine QL.gg (gwF rfl rfl) (fun hg => (eql (gs hg rfl) rfl).does _) rfl ?_
        refine QL.gg (gwF rfl rfl) (fun hg => (mvv (gs hg rfl)).does _) rfl ?_
        refine QL.gg (gwTT rfl rfl) (fun hg => (mvI rfl).does _) rfl ?_
        refine QL.gg (gwTT rfl rfl) (fun hg => (mvI rfl).does _) rfl ?_
        refine QL.gg (gwTT rfl rfl) (fun hg => (neq (gs hg rfl) (gs hg rfl)).does _) rfl ?_
        refine QL.gg (gwF rfl rfl) (fun hg => (pickAnd (gs hg rfl) (fun hn => gs ⟨hg, hn⟩ rfl)).does _) rfl ?_
        refine QL.r (pickOr rfl (fun hn => gs hn rfl)) rfl ?_
        refine QL.nil ?_; intro w22 hx; replace H := H.ext hx; replace hb5 := hb5.ext hx; replace hb6 := hb6.ext hx; replace hT := hT.ext hx; replace hL1 := hL1.ext hx; replace ho1 := ho1.ext hx; replace hL2 := hL2.ext hx; replace ho2 := ho2.ext hx
        refine WP.cond rfl (fun hc => ?_) (fun hc => ?_)
        · refine WP.regionS ?_
          refine RL.r (asgB rfl) rfl ?_
          refine RL.nil ?_
          refine WP.ret ?_
          refine fin1_ret rfl ⟨?_, H⟩
          exfalso
          rcases hc with ((h | h) | ⟨h1, h2⟩) | ⟨h1, h2⟩
          · have := hgn.1; omega
          · have := hgn.2.1; omega
          · exact h1 (hpp.2 (aliL_of hm1 hm2 (hgn.2.2.1 h2) j1))
          · exact h2 (hgn.2.2.2 h1)
        · refine WP.skip ?_
          refine WP.region ?_
          refine RL.r (mvI rfl) rfl ?_
          refine RL.r (add rfl rfl (by omega)) rfl ?_
          refine RL.r (asgI rfl) rfl ?_
          refine RL.nil ?_
          refine ⟨k - 1, by omega, j + 1, stepG G l[j] s.st, by omega, Head.intro (by repeat (first | with_reducible exact AgreeOff.mix _ _ _ | refine AgreeOff.look rfl ?_ | refine AgreeOff.mixs rfl ?_)) ⟨rfl, trivial⟩, H, hT, (by have := hgn.2.1; omega)⟩
    · refine WP.exit ?_
      refine WP.regionS ?_
      -- call stagecoach/stagecoachlaw11.fixed 
      refine RL.call (lFixed _) rfl rfl ?_
      rintro _ w23 ⟨rfl, hx⟩
      replace H := H.ext hx; replace hT := hT.ext hx
      refine RL.r (asgB rfl) rfl ?_
      refine RL.nil ?_
      refine WP.ret ?_
      refine fin1_ret rfl ⟨rfl, H⟩
end Go.Proofs.Ytlkpgeopcdhgjaa
