/-
  The walks of a group's names, seats; of what a seat may be.
-/
import Derived.Test.YtlkpgeopcdhgjaaGrp1
import Derived.Test.YtlkpgeopcdhgjaaKeysS
set_option linter.unusedVariables false
namespace Go.Proofs.Ytlkpgeopcdhgjaa
open Go Go.Eng Go.RowKit
def names (S : List St) : List ByteArray := S.map St.name
theorem names_len (S : List St) : (names S).length = S.length := by simp [names]
theorem names_get {S : List St} {j : Nat} (h : j < S.length) : (names S)[j]'(by rw [names_len]; exact h) = S[j].name := by simp [names]
theorem hs_srt {H : List Seat} {S : List St} (hst : H.map Seat.st = S) (hs : S.Pairwise bfr) : H.Pairwise bfr := (srt_map key_st H).1 (hst ▸ hs)
theorem keys_names {H : List Seat} {S : List St} (hst : H.map Seat.st = S) : H.map key = names S := by rw [← hst]; unfold names; rw [List.map_map]; rfl
theorem st_len {H : List Seat} {S : List St} (hst : H.map Seat.st = S) : H.length = S.length := by rw [← hst]; simp
theorem key_size {lb : List (ByteArray × Value × Nat)} {H : List Seat} {G : Gs} (hr : Rep lb H) (hst : H.map Seat.st = G.S) (ok : okG G) : ∀ x ∈ lb, x.1.size ≤ maxLen := by
  intro x hx
  have h1 : x.1 ∈ H.map key := (rep_keys hr).mem_iff.1 (List.mem_map.2 ⟨x, hx, rfl⟩)
  rw [keys_names hst] at h1
  obtain ⟨s, hs, e⟩ := List.mem_map.1 h1
  have h2 := (ok.may s hs).1.2.1
  rw [← e]
  simp only [maxLen]
  omega
/-- the seat at a name -/
theorem seat_at {H : List Seat} {S : List St} (hst : H.map Seat.st = S) (hs : S.Pairwise bfr) {j : Nat} (hj : j < S.length) : ∃ h ∈ H, eGet H S[j].name = some h ∧ h.st = S[j] := by
  subst hst
  have hj' : j < H.length := by simpa using hj
  refine ⟨H[j], List.getElem_mem _, ?_, by simp⟩
  have := eGet_mem (srt_nodup ((srt_map key_st H).1 hs)) (List.getElem_mem hj')
  rw [List.getElem_map]
  exact this
/-- rows of topics in blocks of their own -/
def Apt (H : List Seat) : Prop := H.Pairwise fun x y => ∀ b, inBlock x.ta b → ¬ inBlock y.ta b
theorem Apt.push {H : List Seat} {s : Seat} (h : Apt H) (hs : ∀ x ∈ H, ∀ b, inBlock x.ta b → ¬ inBlock s.ta b) : Apt (H ++ [s]) := by
  unfold Apt
  rw [List.pairwise_append]
  exact ⟨h, by simp, fun x hx y hy => by rw [List.mem_singleton.1 hy]; exact hs x hx⟩
theorem Apt.fresh {H : List Seat} {s : Seat} {B : Nat} {w w' : World} (hO : Owns B w H) (hs : Own w.heap.size w' 9 s.ta s.tc s.topics) : ∀ x ∈ H, ∀ b, inBlock x.ta b → ¬ inBlock s.ta b := fun x hx b hb hb2 => by
  have h1 := ((hO x hx).blk hb).2
  have h2 := (hs.blk hb2).1
  omega
theorem Owns.push {B : Nat} {w : World} {H : List Seat} {s : Seat} (h : Owns B w H) (hs : Own B w 9 s.ta s.tc s.topics) : Owns B w (H ++ [s]) := fun x hx => by
  rcases List.mem_append.1 hx with h1 | h1
  · exact h x h1
  · rw [List.mem_singleton.1 h1]; exact hs
theorem topics_le {G : Gs} (ok : okG G) {s : St} (hs : s ∈ G.S) : s.topics.length ≤ 8 := (ok.may s hs).2.2.1
theorem gMay' (w0 : World) (nm : ByteArray) (ta : Option Addr) (tc : Nat) (tp : List ByteArray) (tmo se : Int) (hl : Sl w0 ta tp) (hlen : tp.length ≤ 100000) :
    Ct Try.prog 31 #[.agg [.string nm, .slice ta tp.length tc, .int .i64 tmo, .int .i64 se].toArray] w0 fun v w' => v = .bool (decide (mayS ⟨nm, tp, tmo, se⟩)) ∧ Ext w0 w' := by
  refine Ct.intro1 Try.func31 Try.ntmps31 rfl rfl (by decide) rfl ?_
  have H : Ext w0 w0 := Ext.refl w0
  refine WP.regionS ?_
  refine RL.boxS w0.heap.size H.size rfl rfl ?_
  intro w1 i1 hi1 hx hb1
  replace H := H.ext hx; clear hx
  refine RL.r (asgB rfl) rfl ?_
  refine RL.nil ?_
  refine WP.regionS ?_
  refine RL.r (fa_box rfl) rfl ?_
  refine RL.r (fa_box rfl) rfl ?_
  refine RL.m (ld_box rfl hb1 rfl) rfl ?_
  refine RL.r (asgL rfl) rfl ?_
  refine RL.nil ?_
  refine WP.seq ?_
  refine WP.regionS ?_
  refine RL.r (mvL rfl) rfl ?_
  refine RL.r (len_sl rfl) rfl ?_
  refine RL.r (mvI rfl) rfl ?_
  refine RL.nil ?_
  refine WP.block ?_
  refine WP.loop (fun k e' w' => ∃ j : Nat,  j + k = tp.length ∧ Head [2, 4, 5, 11, 12, 13, 14, 15, 16, 17, 18, 19, 20, 21, 22, 23, 24, 25, 26, 27, 28, 29, 30, 31, 32] _ [(11, .int .i64 (j : Int))] e' ∧ Ext w0 w' ∧ Box w0.heap.size w' i1 31 [.string nm, .slice ta tp.length tc, .int .i64 tmo, .int .i64 se] ∧ ∀ (i : Nat) (h : i < tp.length), i < j → nameB tp[i] ∧ (0 < i → slt tp[i - 1] tp[i])) (tp.length)
    ⟨0, by omega, Head.intro (AgreeOff.refl _ _) ⟨rfl, trivial⟩, H, hb1, fun i h hi => by omega⟩ ?_
  clear H hb1
  rintro k e w2 ⟨j, hjk, ⟨jk, rfl⟩, H, hb1, hok⟩
  refine WP.regionS ?_
  refine RL.r (lss rfl rfl) rfl ?_
  refine RL.nil ?_
  refine WP.seq ?_
  refine WP.cond rfl (fun hc => ?_) (fun hc => ?_)
  · refine WP.skip ?_
    refine WP.seq ?_
    refine WP.block ?_
    refine WP.regionS ?_
    refine RL.r (mvI rfl) rfl ?_
    have hj : j < tp.length := by omega
    have hj1 : j - 1 < tp.length := by omega
    obtain ⟨p, rfl⟩ := hl.isAddr (by decide) hj
    refine RL.r (ix rfl rfl rfl hj) rfl ?_
    refine RL.m (ld_e0 rfl hl H rfl hj rfl) rfl ?_
    refine RL.r (asgI rfl) rfl ?_
    refine RL.r (asgS rfl) rfl ?_
    refine RL.nil ?_
    refine WP.seq (WP.quiet ?_)
    refine QL.r (mvS rfl) rfl ?_
    -- call stagecoach/request.Name (tmp 16)
    refine QL.call (fun w' hw' => pName w' _) rfl rfl ?_
    first | refine QL.r (notD rfl) rfl ?_ | refine QL.r (not_ rfl) rfl ?_
    refine QL.r (mvB rfl) rfl ?_
    refine QL.gg (gwF rfl rfl) (fun hg => (mvI rfl).does _) rfl ?_
    refine QL.gg (gwF rfl rfl) (fun hg => (gtr (gs hg rfl) rfl).does _) rfl ?_
    refine QL.gg (gwF rfl rfl) (fun hg => (mvv (gs hg rfl)).does _) rfl ?_
    refine QL.gg (gwTT rfl rfl) (fun hg => (mvS rfl).does _) rfl ?_
    refine QL.gg (gwTT rfl rfl) (fun hg => (mvL rfl).does _) rfl ?_
    refine QL.gg (gwTT rfl rfl) (fun hg => (mvI rfl).does _) rfl ?_
    refine QL.gg (gwTT rfl rfl) (fun hg => (sub (gs hg rfl) rfl (by omega)).does _) rfl ?_
    refine QL.gg (gwTT rfl rfl) (fun hg => (ix (gs hg rfl) (gs hg rfl) (show ((j : Int) - 1) = ((j - 1 : Nat) : Int) by have := hg.2; omega) hj1).does _) rfl ?_
    refine QL.gg (gwTT rfl rfl) (fun hg => ld_e0 (gs hg rfl) hl H rfl hj1 rfl) rfl ?_
    refine QL.gg (gwTT rfl rfl) (fun hg => (sleq (gs hg rfl) (gs hg rfl)).does _) rfl ?_
    refine QL.gg (gwF rfl rfl) (fun hg => (pickAnd (gs hg rfl) (fun hn => gs ⟨hg, hn⟩ rfl)).does _) rfl ?_
    refine QL.r (pickOr rfl (fun hn => gs hn rfl)) rfl ?_
    refine QL.nil ?_; intro w4 hx; replace H := H.ext hx; replace hb1 := hb1.ext hx
    refine WP.cond rfl (fun hc => ?_) (fun hc => ?_)
    · refine WP.regionS ?_
      refine RL.r (asgB rfl) rfl ?_
      refine RL.nil ?_
      refine WP.ret ?_
      refine fin1_ret rfl ⟨boolE (Eq.symm (decide_eq_false fun h => ?_)), H⟩
      obtain ⟨h1, h2⟩ := h.2.2.2.1 j hj
      rcases hc with hc | ⟨hc, hc'⟩
      · exact hc h1
      · exact hc' (h2 (by omega))
    · refine WP.skip ?_
      refine WP.region ?_
      refine RL.r (add rfl rfl (by omega)) rfl ?_
      refine RL.r (mvI rfl) rfl ?_
      refine RL.nil ?_
      refine ⟨k - 1, by omega, j + 1, by omega, Head.intro (by repeat (first | with_reducible exact AgreeOff.mix _ _ _ | refine AgreeOff.look rfl ?_ | refine AgreeOff.mixs rfl ?_)) ⟨rfl, trivial⟩, H, hb1, fun i h hi => ?_⟩
      by_cases hij : i < j
      · exact hok i h hij
      · obtain rfl : i = j := by omega
        exact ⟨Classical.byContradiction fun h => hc (.inl h), fun h0 => Classical.byContradiction fun h => hc (.inr ⟨by omega, h⟩)⟩
  · refine WP.exit ?_
    refine WP.seq (WP.quiet ?_)
    refine QL.r (fa_box rfl) rfl ?_
    refine QL.r (fa_box rfl) rfl ?_
    refine QL.m (ld_box rfl hb1 rfl) rfl ?_
    -- call stagecoach/request.Name (tmp 35)
    refine QL.call (fun w' hw' => pName w' _) rfl rfl ?_
    refine QL.r (mvB rfl) rfl ?_
    refine QL.gg (gwT rfl rfl) (fun hg => (mvL rfl).does _) rfl ?_
    refine QL.gg (gwT rfl rfl) (fun hg => (len_sl (gs hg rfl)).does _) rfl ?_
    refine QL.gg (gwT rfl rfl) (fun hg => (gtr (gs hg rfl) rfl).does _) rfl ?_
    refine QL.r (pickAnd rfl (fun hn => gs hn rfl)) rfl ?_
    refine QL.r (mvB rfl) rfl ?_
    refine QL.gg (gwT rfl rfl) (fun hg => (mvL rfl).does _) rfl ?_
    refine QL.gg (gwT rfl rfl) (fun hg => (len_sl (gs hg rfl)).does _) rfl ?_
    refine QL.gg (gwT rfl rfl) (fun hg => (leq (gs hg rfl) rfl).does _) rfl ?_
    refine QL.r (pickAnd rfl (fun hn => gs hn rfl)) rfl ?_
    refine QL.r (mvB rfl) rfl ?_
    refine QL.gg (gwT rfl rfl) (fun hg => (fa_box rfl).does _) rfl ?_
    refine QL.gg (gwT rfl rfl) (fun hg => ld_box (gs hg rfl) hb1 rfl) rfl ?_
    refine QL.gg (gwT rfl rfl) (fun hg => (gtr (gs hg rfl) rfl).does _) rfl ?_
    refine QL.r (pickAnd rfl (fun hn => gs hn rfl)) rfl ?_
    refine QL.r (mvB rfl) rfl ?_
    refine QL.gg (gwT rfl rfl) (fun hg => (fa_box rfl).does _) rfl ?_
    refine QL.gg (gwT rfl rfl) (fun hg => ld_box (gs hg rfl) hb1 rfl) rfl ?_
    -- call stagecoach/group.number (tmp 54)
    refine QL.gcall (gwT rfl rfl) (fun hg w' hw' => pNum w' _) (fun hg => EvL.cons (gs hg rfl) (EvL.nil)) rfl ?_
    refine QL.r (pickAnd rfl (fun hn => gs hn rfl)) rfl ?_
    refine QL.r (mvB rfl) rfl ?_
    refine QL.gg (gwT rfl rfl) (fun hg => (fa_box rfl).does _) rfl ?_
    refine QL.gg (gwT rfl rfl) (fun hg => ld_box (gs hg rfl) hb1 rfl) rfl ?_
    -- call stagecoach/group.number (tmp 59)
    refine QL.gcall (gwT rfl rfl) (fun hg w' hw' => pNum w' _) (fun hg => EvL.cons (gs hg rfl) (EvL.nil)) rfl ?_
    refine QL.r (pickAnd rfl (fun hn => gs hn rfl)) rfl ?_
    refine QL.r (asgB rfl) rfl ?_
    refine QL.nil ?_; intro w8 hx; replace H := H.ext hx; replace hb1 := hb1.ext hx
    refine WP.ret ?_
    refine fin1_ret rfl ⟨congrArg Value.bool (bD ?_), H⟩
    have hall : topOk tp := fun i h => hok i h (by omega)
    unfold mayS
    simp only
    constructor
    · rintro ⟨⟨⟨⟨⟨h1, h2⟩, h3⟩, h4⟩, h5⟩, h6⟩
      exact ⟨h1, by omega, by omega, hall, by omega, h5, h6⟩
    · rintro ⟨h1, h2, h3, h4, h5, h6, h7⟩
      exact ⟨⟨⟨⟨⟨h1, by omega⟩, by omega⟩, by omega⟩, h6⟩, h7⟩
theorem gMay (w0 : World) (s : Seat) (hl : Sl w0 s.ta s.topics) (hlen : s.topics.length ≤ 100000) :
    Ct Try.prog 31 #[.agg (Lies.enc s).toArray] w0 fun v w' => v = .bool (decide (mayS s.st)) ∧ Ext w0 w' := gMay' w0 s.name s.ta s.tc s.topics s.timeout s.seen hl hlen
theorem gNames (w0 : World) (B i m : Nat) (G : Gs) (hT : Tg B w0 i m G) :
    Ct Try.prog 38 #[.pointer (some ⟨i, 0, none⟩)] w0 fun v w' => (∃ a c, v = .slice a (names G.S).length c ∧ Own w0.heap.size w' 9 a c (names G.S)) ∧ Ext w0 w' := by
  refine Ct.intro1 Try.func38 Try.ntmps38 rfl rfl (by decide) rfl ?_
  have H : Ext w0 w0 := Ext.refl w0
  obtain ⟨H0, lb, c, hm, hr, hst, how⟩ := hT.map
  have hbt := hT.box
  have hok := hT.ok
  have hln := (rep_len hr).trans (st_len hst)
  have hle8 := hok.len
  refine WP.regionS ?_
  refine RL.r (asgL rfl) rfl ?_
  refine RL.nil ?_
  refine WP.regionS ?_
  refine RL.r (mvP rfl) rfl ?_
  refine RL.r (nilck rfl) rfl ?_
  refine RL.r (fa_box rfl) rfl ?_
  refine RL.m (ld_box rfl hbt rfl) rfl ?_
  -- call maps.Keys[map[string]stagecoach/api.Seat,string,stagecoach/api.Seat] (tmp 6)
  refine RL.call (kKeys _ _) rfl rfl ?_
  rintro v w1 ⟨⟨b, rfl, hb, hbc⟩, hx⟩
  replace H := H.ext hx; replace hm := hm.ext hx; replace hbt := hbt.ext hx
  -- call slices.Sorted[string] (tmp 7)
  have hsz := H.size
  refine RL.call (kSorted _ B m c b lb hm (key_size hr hst hok) (by omega) hb hbc) rfl rfl ?_
  rintro v w2 ⟨⟨l, a7, c7, rfl, hp, hO⟩, hx⟩
  replace H := H.ext hx; replace hm := hm.ext hx; replace hbt := hbt.ext hx
  refine RL.r (asgL rfl) rfl ?_
  refine RL.nil ?_
  refine WP.ret ?_
  have e := sortB_keys hr (hs_srt hst hok.srt) hp
  rw [keys_names hst] at e
  have hll := hp.length_eq
  rw [List.length_map] at hll
  rw [e] at hO
  refine fin1_ret rfl ⟨⟨a7, c7, slE (by rw [names_len]; omega), hO.mono hsz⟩, H⟩
theorem gSeats (w0 : World) (B i m : Nat) (G : Gs) (hT : Tg B w0 i m G) :
    Ct Try.prog 21 #[.pointer (some ⟨i, 0, none⟩)] w0 fun v w' => (∃ (a : Option Addr) (c : Nat) (L : List Seat), v = .slice a L.length c ∧ Own w0.heap.size w' 31 a c L ∧ L.map Seat.st = G.S ∧ Owns w0.heap.size w' L ∧ Apt L) ∧ Ext w0 w' := by
  refine Ct.intro1 Try.func21 Try.ntmps21 rfl rfl (by decide) rfl ?_
  have H : Ext w0 w0 := Ext.refl w0
  obtain ⟨H0, lb, c, hm, hr, hst, how⟩ := hT.map
  have hbt := hT.box
  have hok := hT.ok
  have hln := (rep_len hr).trans (st_len hst)
  have hle8 := hok.len
  refine WP.regionS ?_
  refine RL.r (asgL rfl) rfl ?_
  refine RL.nil ?_
  refine WP.regionS ?_
  refine RL.r (asgL rfl) rfl ?_
  refine RL.nil ?_
  refine WP.seq ?_
  refine WP.regionS ?_
  refine RL.r (mvP rfl) rfl ?_
  -- call (*stagecoach/group.Group).names (tmp 6)
  refine RL.call (gNames _ B i m G (hT.ext H)) rfl rfl ?_
  rintro v w1 ⟨⟨a7, c7, rfl, hN⟩, hx⟩
  replace H := H.ext hx; replace hm := hm.ext hx; replace hbt := hbt.ext hx
  refine RL.r (len_sl rfl) rfl ?_
  refine RL.r (mvI rfl) rfl ?_
  refine RL.nil ?_
  refine WP.block ?_
  refine WP.loop (fun k e' w' => ∃ j : Nat, ∃ (a3 : Option Addr) (c3 : Nat) (L : List Seat),  j + k = (names G.S).length ∧ Head [3, 5, 9, 10, 11, 12, 13, 14, 15, 16, 17, 18, 19, 20, 21, 22, 23] _ [(3, .slice a3 L.length c3), (9, .int .i64 (j : Int))] e' ∧ Ext w0 w' ∧ MpB Try.prog 9 B w' m lb c ∧ Box B w' i 75 [.int .i64 G.gen, .bool G.rb, .map (some m)] ∧ Own w0.heap.size w' 9 a7 c7 (names G.S) ∧ Own w0.heap.size w' 31 a3 c3 L ∧ L.map Seat.st = G.S.take j ∧ Owns w0.heap.size w' L ∧ Apt L) ((names G.S).length)
    ⟨0, none, 0, [], by omega, Head.intro (AgreeOff.refl _ _) ⟨rfl, rfl, trivial⟩, H, hm, hbt, hN, Own.nil _ _ _, rfl, Owns.nil _ _, List.Pairwise.nil⟩ ?_
  clear H hm hbt hN
  rintro k e w2 ⟨j, a3, c3, L, hjk, ⟨jk, rfl⟩, H, hm, hbt, hN, hL, hLs, hLo, hLa⟩
  have hnl := names_len G.S
  have hLl : L.length = min j G.S.length := by rw [← List.length_take, ← hLs, List.length_map]
  refine WP.regionS ?_
  refine RL.r (lss rfl rfl) rfl ?_
  refine RL.nil ?_
  refine WP.seq ?_
  refine WP.cond rfl (fun hc => ?_) (fun hc => ?_)
  · refine WP.skip ?_
    refine WP.seq ?_
    refine WP.block ?_
    refine WP.regionS ?_
    have hj : j < G.S.length := by omega
    have hjn : j < (names G.S).length := by omega
    obtain ⟨p, hp⟩ := hN.sl.isAddr (by decide) hjn
    subst hp
    obtain ⟨h9, hh9, hg9, hs9⟩ := seat_at hst hok.srt hj
    refine RL.r (ix rfl rfl rfl hjn) rfl ?_
    refine RL.m (ld_e0 rfl hN.sl (Ext.refl _) rfl hjn (show _ = some (Value.string G.S[j].name) by rw [← names_get hj]; rfl)) rfl ?_
    refine RL.r (asgS rfl) rfl ?_
    refine RL.nil ?_
    refine WP.region ?_
    refine RL.r (mvL rfl) rfl ?_
    refine RL.r (mvP rfl) rfl ?_
    refine RL.r (nilck rfl) rfl ?_
    refine RL.r (fa_box rfl) rfl ?_
    refine RL.m (ld_box rfl hbt rfl) rfl ?_
    refine RL.r (mvS rfl) rfl ?_
    refine RL.m (lkS (z0 := zSeat) (k := G.S[j].name) rfl hm rfl ((rep_get hr hm.nod _).trans (congrArg _ hg9)) rfl) rfl ?_
    -- call stagecoach/group.own (tmp 19)
    have hsz := H.size
    have ht9 : h9.topics.length ≤ 8 := by have := topics_le hok (List.getElem_mem hj); rw [← hs9] at this; exact this
    refine RL.call (gOwn _ h9 ((how h9 hh9).sl.ext H) (by omega)) rfl rfl ?_
    rintro v w3 ⟨⟨s2, rfl, hss, hO⟩, hx⟩
    have hLo0 := hLo
    have hO0 := hO
    replace H := H.ext hx; replace hm := hm.ext hx; replace hbt := hbt.ext hx; replace hN := hN.ext hx; replace hL := hL.ext hx; replace hLo := hLo.ext hx
    refine RL.buildSlice w0.heap.size H.size rfl rfl rfl rfl rfl ?_
    intro w4 i21 hi21 hx hb21
    replace H := H.ext hx; replace hm := hm.ext hx; replace hbt := hbt.ext hx; replace hN := hN.ext hx; replace hL := hL.ext hx; replace hLo := hLo.ext hx; replace hO := hO.ext hx; clear hx
    have hfre := Apt.fresh hLo0 hO0
    refine RL.appendS rfl hL H.size rfl (show Sl _ _ [s2] from Box.sl1 hb21) rfl rfl (by decide) rfl cell1 (by omega) (by simp only [maxLen]; omega) rfl ?_
    intro w5 a22 c22 hu hb22 hfr22
    replace hbt := hbt.upd hu (fun h => hL.box_apart hbt (by decide) h)
    replace hm := hm.upd hu (hm.nea hL)
    replace hN := hN.upd hu (fun k hk h => hN.apart hL (by decide) hk h)
    replace hLo := hLo.ow hL (by decide) hu
    replace hO := hO.upd hu (fun k hk h => hO.apart hL (by decide) hk h)
    replace H := Ext.own H hL hu; clear hu
    refine RL.r (asgL rfl) rfl ?_
    refine RL.nil ?_
    refine WP.region ?_
    refine RL.r (add rfl rfl (by omega)) rfl ?_
    refine RL.r (mvI rfl) rfl ?_
    refine RL.nil ?_
    refine ⟨k - 1, by omega, j + 1, a22, c22, L ++ [s2], by omega, Head.intro (by repeat (first | with_reducible exact AgreeOff.mix _ _ _ | refine AgreeOff.look rfl ?_ | refine AgreeOff.mixs rfl ?_)) ⟨rfl, rfl, trivial⟩, H, hm, hbt, hN, hb22, by rw [List.map_append, hLs, List.take_succ_eq_append_getElem hj]; simp [hss, hs9], hLo.push (hO.mono hsz), hLa.push hfre⟩
  · refine WP.exit ?_
    refine WP.regionS ?_
    refine RL.r (mvL rfl) rfl ?_
    refine RL.r (asgL rfl) rfl ?_
    refine RL.nil ?_
    refine WP.ret ?_
    refine fin1_ret rfl ⟨⟨a3, c3, L, rfl, hL, by rw [hLs, List.take_of_length_le (by omega)], hLo, hLa⟩, H⟩
end Go.Proofs.Ytlkpgeopcdhgjaa
