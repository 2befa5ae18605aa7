/-
  The walk of a catalog's List.
-/
import Derived.Test.YtdcckaamepilcaaCat0
import Derived.Test.YtdcckaamepilcaaKeysS
import Derived.Test.YtdcckaamepilcaaRf
set_option linter.unusedVariables false
namespace Go.Proofs.Ytdcckaamepilcaa
open Go Go.Eng Go.RowKit
abbrev tp_ (S : List Topic) (nm : ByteArray) : Topic := ⟨nm, nC S nm⟩
abbrev tps (S : List Topic) (l : List ByteArray) : List Topic := l.map (tp_ S)
theorem names_back {S : List Topic} (h : okC S) : tps S (S.map key) = S := by
  unfold tps
  rw [List.map_map]
  conv => rhs; rw [← List.map_id S]
  refine List.map_congr_left fun x hx => ?_
  have h1 := eGet_mem (srt_nodup h.srt) hx
  have h2 : nC S (key x) = x.n := by unfold nC; rw [h1]; rfl
  show (⟨key x, nC S (key x)⟩ : Topic) = x
  rw [h2]
  rfl
theorem key_size {lb : List (ByteArray × Value × Nat)} {S : List Topic} (h : Rep lb S) (hok : okC S) : ∀ x ∈ lb, x.1.size ≤ maxLen := by
  intro x hx
  have h1 : x.1 ∈ S.map key := (rep_keys h).mem_iff.1 (List.mem_map_of_mem hx)
  obtain ⟨y, hy, e⟩ := List.mem_map.1 h1
  rw [← e]
  have := (hok.may y hy).1.2.1
  show y.name.size ≤ maxLen
  simp only [maxLen]
  omega
theorem odd_box {B0 B b : Nat} {W W' : World} {T : TypeId} {cs : List Value} (h : Box B0 W b T cs) (k : Upd (odd_ B W) W W') : Box B0 W' b T cs := h.upd k (by rintro ⟨_, o, h1, h2⟩; rw [h.at_] at h1; cases h1; cases h2)
theorem odd_own {α : Type} [Lies α] {B0 B c : Nat} {W W' : World} {T : TypeId} {a : Option Addr} {l : List α} (h : Eng.Own B0 W T a c l) (k : Upd (odd_ B W) W W') : Eng.Own B0 W' T a c l := h.upd k (by
  rintro j ⟨p, hp, rfl⟩ ⟨_, o, h1, h2⟩
  rcases h.cases with ⟨h3, _⟩ | ⟨g, cur, h3, _, hg, _⟩
  · rw [h3] at hp; cases hp
  · rw [h3] at hp; cases hp; rw [hg] at h1; cases h1; cases h2)
theorem own_cells {α : Type} [Lies α] {B0 c : Nat} {W : World} {T : TypeId} {a : Option Addr} {l : List α} (h : Eng.Own B0 W T a c l) {k : Nat} (hk : inBlock a k) : ∃ o : Obj, W.heap[k]? = some o ∧ o.isCells = true := by
  obtain ⟨p, hp, rfl⟩ := hk
  rcases h.cases with ⟨h3, _⟩ | ⟨g, cur, h3, _, hg, _⟩
  · rw [h3] at hp; cases hp
  · rw [h3] at hp; cases hp; exact ⟨_, hg, rfl⟩
set_option maxRecDepth 20000 in
set_option maxHeartbeats 1600000 in
theorem pList (w0 : World) (B i m : Nat) (S : List Topic) (hT : Tc B w0 i m S) :
    Ct Try.prog 12 #[.pointer (some ⟨i, 0, none⟩)] w0 fun v w' => (∃ a c, v = .slice a S.length c ∧ Eng.Own w0.heap.size w' 25 a c S) ∧ Ext w0 w' := by
  obtain ⟨lb, c, hm, hr⟩ := hT.map
  have hbt := hT.box
  have hok := hT.ok
  have hln := rep_len hr
  have hle8 := hok.len
  have H : Ext w0 w0 := Ext.refl w0
  refine Ct.introX Try.func12 Try.ntmps12 rfl rfl (by decide) rfl ?_
  refine WPX.regionS ?_
  refine RL.box1 w0.heap.size H.size rfl rfl rfl ?_
  intro w1 i1 hi1 hx hb1
  replace H := H.ext hx; replace hbt := hbt.ext hx; replace hm := hm.ext hx; clear hx
  refine RL.r (asgL rfl) rfl ?_
  refine RL.nil ?_
  refine WPX.regionS ?_
  refine RL.m (ld_box rfl hb1 rfl) rfl ?_
  refine RL.r (nilck rfl) rfl ?_
  refine RL.r (fa_box rfl) rfl ?_
  refine RL.m (ld_box rfl hbt rfl) rfl ?_
  refine RL.call (kKeys _ _) rfl rfl ?_
  rintro v w2 ⟨⟨b, rfl, hb, hbc⟩, hx⟩
  replace H := H.ext hx; replace hbt := hbt.ext hx; replace hb1 := hb1.ext hx; replace hm := hm.ext hx
  refine RL.call (kCollect _ B m c b lb hm (key_size hr hok) (by omega) hb hbc) rfl rfl ?_
  have hsz2 := H.size
  rintro v w3 ⟨⟨l, a7, c7, rfl, hp, hO⟩, hx⟩
  replace H := H.ext hx; replace hbt := hbt.ext hx; replace hb1 := hb1.ext hx; replace hm := hm.ext hx
  refine RL.r (asgL rfl) rfl ?_
  refine RL.nil ?_
  refine WPX.regionS ?_
  refine RL.r (mvL rfl) rfl ?_
  have hll : l.length = S.length := by rw [hp.length_eq, List.length_map, hln]
  refine RL.call (kSort _ _ c7 a7 l hO (by omega)) rfl rfl ?_
  rintro v w4 ⟨⟨rfl, hO2⟩, hx⟩
  have hs1 : sortB l = S.map key := sortB_keys hr hok.srt hp
  rw [hs1] at hO2
  replace hbt := hbt.upd hx (fun h => hO.box_apart hbt (by decide) h)
  replace hb1 := hb1.upd hx (fun h => hO.box_apart hb1 (by decide) h)
  replace hm := hm.upd hx (hm.nea hO)
  replace H := Ext.own H (hO.mono hsz2) hx
  have hszl : l.length = (S.map key).length := by rw [hll, List.length_map]
  refine RL.nil ?_
  have hs4 := H.size
  have ho4 : ∀ k, inBlock a7 k → k < w4.heap.size := fun k hk => (hO2.blk hk).2
  refine WPX.regionS ?_
  refine RL.alloc w0.heap.size H.size rfl rfl ?_
  intro w5 i4 hi4 hx hb4
  replace H := H.ext hx; replace hbt := hbt.ext hx; replace hb1 := hb1.ext hx; replace hm := hm.ext hx; replace hO2 := hO2.ext hx; clear hx
  refine RL.nil ?_
  refine WPX.seqX ?_
  refine WPX.regionS ?_
  refine RL.r (mvL rfl) rfl ?_
  have hs5 := H.size
  refine RL.call (pValues _ a7 l.length c7) rfl rfl ?_
  rintro v w6 ⟨⟨bv, rfl, hbv⟩, hx⟩
  replace H := H.ext hx; replace hbt := hbt.ext hx; replace hb1 := hb1.ext hx; replace hm := hm.ext hx; replace hO2 := hO2.ext hx; replace hb4 := hb4.ext hx; clear hx
  refine RL.nil ?_
  have hm6 := hm.blk
  have hb46 := hb4.lt
  rw [hszl] at hbv
  refine WPX.vals (n0 := i4) (zs := S.map key) rfl (by intro args w; exact (enters_of Try.func45 (by kernel_rfl) rfl) args w) (values_stops 1 (Nat.le_refl _) bv i4 _ c7 a7 (S.map key) (by rw [← hszl]; omega) w6 hbv.lt (by omega) (hbv.cell rfl) hO2 (fun k hk => by have := ho4 k hk; omega))
    (by omega) (by decide) (by decide)
    (fun pre W => ∃ (a4 : Option Addr) (c4 : Nat), Ext w0 W ∧ Box B W i 60 [.map (some m)] ∧ MpB Try.prog 9 B W m lb c ∧ Box w0.heap.size W i1 26 [.pointer (some ⟨i, 0, none⟩)] ∧ Box w0.heap.size W i4 22 [.slice a4 (tps S pre).length c4] ∧ Eng.Own w0.heap.size W 25 a4 c4 (tps S pre) ∧ w6.heap.size ≤ W.heap.size ∧ ∀ k, inBlock a4 k → i4 ≤ k)
    ?hI ⟨none, 0, H, hbt, hm, hb1, hb4, Own.nil _ _ _, Nat.le_refl _, fun k ⟨p, hp, _⟩ => by cases hp⟩ (fun pre W ⟨_, _, _, _, _, _, _, _, h, _⟩ => by omega) ?body ?rest
  case hI =>
    rintro pre W W' ⟨a4, c4, h1, h2, h3, h4, h5, h6, h7, h8⟩ hu
    exact ⟨a4, c4, h1.upd hu (fun k hk => by have := hk.1; have := H.size; omega), odd_box h2 hu, h3.upd hu (fun h => by have := h.1; omega), odd_box h4 hu, odd_box h5 hu, odd_own h6 hu, Nat.le_trans h7 hu.size, h8⟩
  case body =>
    rintro pre x W ⟨a4, c4, h1, h2, h3, h4, h5, h6, h7, h8⟩ hlt
    rw [List.length_map] at hlt
    have h5W := h5
    have h6W := h6
    have hpl : (tps S pre).length = pre.length := List.length_map ..
    refine WPR.block ?_
    refine WPR.any (by kernel_rfl) ?_
    intro W1 hx
    have K := hx
    replace h1 := h1.ext hx; replace h2 := h2.ext hx; replace h3 := h3.ext hx; replace h4 := h4.ext hx; replace h5 := h5.ext hx; replace h6 := h6.ext hx
    refine AL.p 1 (by kernel_rfl) rfl (mvS rfl) rfl ?_
    refine AL.p 6 (by kernel_rfl) rfl (mvS rfl) rfl ?_
    refine AL.m 2 (by kernel_rfl) rfl (ld_box rfl h4 rfl) rfl ?_
    refine AL.p 3 (by kernel_rfl) rfl (nilck rfl) rfl ?_
    refine AL.p 4 (by kernel_rfl) rfl (fa_box rfl) rfl ?_
    refine AL.m 5 (by kernel_rfl) rfl (ld_box rfl h2 rfl) rfl ?_
    refine AL.m 7 (by kernel_rfl) rfl (lkMI (k := x) rfl h3 rfl (tget hr h3.nod x)) rfl ?_
    refine AL.m 0 (by kernel_rfl) rfl (ld_box rfl h5 rfl) rfl ?_
    refine AL.p 8 (by kernel_rfl) rfl (bld rfl rfl) rfl ?_
    refine AL.o 9 (by kernel_rfl) rfl ?_
    refine RL.buildSlice w0.heap.size h1.size rfl rfl rfl rfl rfl ?_
    intro W2 i26 hi26 hx hb26
    have K2 := K.trans hx
    replace h1 := h1.ext hx; replace h2 := h2.ext hx; replace h3 := h3.ext hx; replace h4 := h4.ext hx; replace h5 := h5.ext hx; replace h6 := h6.ext hx
    refine RL.nil ?_
    refine AL.o 10 (by kernel_rfl) rfl ?_
    refine RL.appendS rfl h6 h1.size rfl (show Sl _ _ [(⟨x, nC S x⟩ : Topic)] from Box.sl1 hb26) rfl rfl (by decide) rfl cell1 (by rw [hpl]; omega) (by rw [hpl]; simp only [maxLen]; omega) rfl ?_
    intro W3 a27 c27 hu hO27 hfr27
    have KX : Upd (fun k => inBlock a4 k ∨ k = i4) W W3 := Upd.upd K2.toUpd hu (fun k hk he => .inl he)
    replace h1 := Ext.own h1 h6 hu
    replace h2 := h2.upd hu (fun h => h6.box_apart h2 (by decide) h)
    replace h3 := h3.upd hu (h3.nea h6)
    replace h4 := h4.upd hu (fun h => h6.box_apart h4 (by decide) h)
    replace h5 := h5.upd hu (fun h => h6.box_apart h5 (by decide) h)
    refine RL.nil ?_
    refine AL.o 11 (by kernel_rfl) rfl ?_
    have h5o := h5
    refine RL.store1 rfl h5 rfl rfl rfl rfl ?_
    intro W4 hu2 h5
    refine RL.nil ?_
    refine AL.nil (by kernel_rfl) ?_
    have hz1 := K2.size
    have hz2 := Upd.size KX
    have hz3 := Upd.size hu2
    refine ⟨⟨fun k => inBlock a4 k ∨ k = i4, Upd.upd KX hu2 (fun k hk he => .inr he), ?_⟩, a27, c27, h1.box hu2 h5.old, h2.upd hu2 (box_nt h2 h5o (by decide)), h3.upd hu2 (h3.neb h5o), h4.upd hu2 (box_nt h4 h5o (by decide)), by unfold tps; rw [List.map_append]; exact h5, by unfold tps; rw [List.map_append]; exact hO27.upd hu2 (fun y hy e => hO27.box_apart h5o (by decide) (e ▸ hy)), by omega, ?_⟩
    · rintro k (hk | rfl)
      · exact ⟨h8 k hk, own_cells h6W hk⟩
      · exact ⟨Nat.le_refl _, _, h5W.at_, rfl⟩
    · intro k hk
      rcases hfr27 k hk with h | h
      · exact h8 k h
      · omega
  case rest =>
    rintro D W hD ⟨a4, c4, h1, h2, h3, h4, h5, h6, h7, h8⟩ hK a' hr' hd'
    rw [names_back hok] at h5 h6
    have hu := Upd.putObj W D (.deferred none)
    have hz := H.size
    refine tail_ret hr' hd' hK (ld_box rfl h5 rfl) (by decide) (by decide) ⟨⟨a4, c4, rfl, h6.upd hu (fun k hk e => ?_)⟩, h1.upd hu (fun k e => by have e2 : k = D := e; omega)⟩
    obtain ⟨o, ho, hc⟩ := own_cells h6 hk
    have e2 : k = D := e
    rw [e2, hK] at ho
    cases ho
    cases hc
end Go.Proofs.Ytdcckaamepilcaa
