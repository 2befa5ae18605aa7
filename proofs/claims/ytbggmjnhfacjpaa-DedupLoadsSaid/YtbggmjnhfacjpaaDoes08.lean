/-
  DedupDoes: the walk.
-/
import Derived.Test.YtbggmjnhfacjpaaSame08b
set_option linter.unusedVariables false
namespace Go.Proofs.Ytbggmjnhfacjpaa
open Go Go.Eng Go.RowKit
theorem tr_new {B i : Nat} {w : World} (h : Box B w i 65 [.slice none 0 0, .slice none 0 0]) : Tr B w i (terrR i none none []) d0 :=
  ⟨none, 0, none, 0, [], ⟨h, Own.nil _ _ _, Own.nil _ _ _, fun x hx => by cases hx⟩, rfl, rfl⟩
section
variable {B B' i b : Nat} {w w' w0 : World} {Y : Nat → Prop} {D : Ds}
theorem box_y {T : TypeId} {cs : List Value} (hb : Box B' w b T cs) (h : Tr B w i Y D) (h1 : T ≠ 65) (h2 : T ≠ 3) (h3 : T ≠ 33) (h4 : T ≠ 53) (k : Upd Y w w') : Box B' w' b T cs := hb.upd k (h.nbox hb h1 h2 h3 h4)
theorem ext_y (H0 : Ext w0 w) (h : Tr B w i Y D) (hB : w0.heap.size ≤ B) (k : Upd Y w w') : Ext w0 w' := H0.upd k (fun j hj => by have := (h.old hj).1; omega)
end
theorem apt_new {Z : Nat → Prop} {i n : Nat} (h : ∀ k, Z k → k < n) (hi : i = n) : Apt Z (terrR i none none []) := by
  rintro k hz (e | ⟨p, hp, _⟩ | ⟨p, hp, _⟩ | ⟨x, hx, _⟩)
  · have := h k hz; omega
  · cases hp
  · cases hp
  · cases hx
theorem pOpenT (w0 : World) (B i : Nat) (Z : Nat → Prop) (D : Ds) (hT : Tg B w0 i Z D) (K : Int) (M : Nat) (hok : okD K M D) (id : Int) :
    Ct Try.prog 15 #[.pointer (some ⟨i, 0, none⟩), .int .i64 id] w0 fun v w' => (∃ r s e, openA D id = (r, s, e) ∧ v = .tuple #[.int .i64 r, .int .i64 s, .int .i64 e] ∧ ∃ Z', Tg B w' i Z' (openD D id) ∧ Grew Z Z' w0.heap.size) ∧ Upd Z w0 w' :=
  (pOpen w0 B i Z D hT K M hok id).mono fun v w' ⟨⟨h, h2⟩, hx⟩ => ⟨⟨_, _, _, rfl, h, h2⟩, hx⟩
theorem rOpenT (w0 : World) (B i : Nat) (Y : Nat → Prop) (D : Ds) (hR : Tr B w0 i Y D) (K : Int) (M : Nat) (hok : okD K M D) (hM : M ≤ 100000) (id : Int) :
    Ct Try.prog 16 #[.pointer (some ⟨i, 0, none⟩), .int .i64 id] w0 fun v w' => (∃ r s e, openA D id = (r, s, e) ∧ v = .tuple #[.int .i64 r, .int .i64 s, .int .i64 e] ∧ ∃ Y', Tr B w' i Y' (openD D id) ∧ Grew Y Y' w0.heap.size) ∧ Upd Y w0 w' :=
  (rOpen w0 B i Y D hR K M hok hM id).mono fun v w' ⟨⟨h, h2⟩, hx⟩ => ⟨⟨_, _, _, rfl, h, h2⟩, hx⟩
theorem pAskT (w0 : World) (B i : Nat) (Z : Nat → Prop) (D : Ds) (hT : Tg B w0 i Z D) (K : Int) (M : Nat) (hok : okD K M D) (hK : 0 ≤ K ∧ K ≤ 4611686018427387904) (p : Part) (b : Bat) :
    Ct Try.prog 20 #[.pointer (some ⟨i, 0, none⟩), .agg (Lies.enc p).toArray, .agg (Lies.enc b).toArray] w0 fun v w' => (∃ r t e, askA D p b = (r, t, e) ∧ v = .tuple #[.int .i64 r, .bool (decide (t = true)), .int .i64 e]) ∧ Ext w0 w' :=
  (pAsk w0 B i Z D hT K M hok hK p b).mono fun v w' ⟨h, hx⟩ => ⟨⟨_, _, _, rfl, h⟩, hx⟩
theorem rAskT (w0 : World) (B i : Nat) (Y : Nat → Prop) (D : Ds) (hR : Tr B w0 i Y D) (K : Int) (M : Nat) (hok : okD K M D) (hK : 0 ≤ K ∧ K ≤ 4611686018427387904) (hM : M ≤ 100000) (p : Part) (b : Bat) :
    Ct Try.prog 25 #[.pointer (some ⟨i, 0, none⟩), .agg (Lies.enc p).toArray, .agg (Lies.enc b).toArray] w0 fun v w' => (∃ r t e, askA D p b = (r, t, e) ∧ v = .tuple #[.int .i64 r, .bool (decide (t = true)), .int .i64 e]) ∧ Ext w0 w' :=
  (rAsk w0 B i Y D hR K M hok hK hM p b).mono fun v w' ⟨h, hx⟩ => ⟨⟨_, _, _, rfl, h⟩, hx⟩
/-- one call of a script -/
def stepD (D : Ds) (kind id off : Int) (p : Part) (b : Bat) : Ds := if kind = 0 then openD D id else if kind = 1 then D else if kind = 2 then doneD D p b off else D
theorem okD_doneB {K : Int} {M : Nat} {D : Ds} (h : okD K M D) (hK : 0 ≤ K) (p : Part) (b : Bat) (off : Int) {n : Nat} (hn : b.recs.length ≤ n) : okD (K + n) (M + 1) (doneD D p b off) := by
  rw [doneD_N]
  exact (okD_done h hK p b.prod b.epoch b.seq b.recs.length off).mono (by omega) (Nat.le_refl _)
theorem okD_step {K : Int} {M : Nat} {D : Ds} (h : okD K M D) (hK : 0 ≤ K) (kind id off : Int) (p : Part) (b : Bat) (hb : b.recs.length ≤ 20) : okD (K + 20) (M + 1) (stepD D kind id off p b) := by
  unfold stepD
  split
  · exact (okD_open h id).mono (by omega) (by omega)
  · split
    · exact h.mono (by omega) (by omega)
    · split
      · exact okD_doneB h hK p b off hb
      · exact h.mono (by omega) (by omega)
theorem topT_step {D : Ds} (h : topT D) (kind id off : Int) {p : Part} (hp : p.topic.size ≤ 9223372036854775807) (b : Bat) : topT (stepD D kind id off p b) := by
  unfold stepD
  split
  · exact topT_open h id
  · split
    · exact h
    · split
      · exact topT_done h hp b off
      · exact h
/-- a batch of a told row is turned -/
theorem own_enc {α : Type} [Lies α] {B c : Nat} {w : World} {T : TypeId} {a : Option Addr} {l l' : List α} (h : Own B w T a c l) (h1 : l'.length = l.length) (h2 : l'.flatMap Lies.enc = l.flatMap Lies.enc) : Own B w T a c l' := by
  unfold Own at *
  rw [h1, h2]
  exact h
theorem set_enc {α : Type} [Lies α] {l : List α} {j : Nat} {x : α} (hj : j < l.length) (hx : Lies.enc x = Lies.enc l[j]) : (l.set j x).flatMap Lies.enc = l.flatMap Lies.enc := by
  have h : (l.set j x).map Lies.enc = l.map Lies.enc := by
    rw [List.map_set, hx]
    have h9 : (l.map Lies.enc).set j ((l.map Lies.enc)[j]'(by simpa using hj)) = l.map Lies.enc := List.set_getElem_self _
    rw [List.getElem_map] at h9
    exact h9
  rw [List.flatMap_def, List.flatMap_def, h]
theorem OwnsD.set {B : Nat} {w w' : World} {L : List Maker} {j : Nat} {m : Maker} (h : OwnsD B w L) (hj : j < L.length) (hla : m.la = L[j].la) (hn : Own B w' 53 m.la m.lc m.last) (k : Upd (inBlock L[j].la) w w') : OwnsD B w' (L.set j m) := by
  have hpw := List.pairwise_iff_getElem.1 h.ap
  refine ⟨fun x hx => ?_, ?_⟩
  · obtain ⟨i, hi, rfl⟩ := List.getElem_of_mem hx
    rw [List.length_set] at hi
    rw [List.getElem_set]
    split
    · exact hn
    · rename_i hne
      refine (h.own _ (List.getElem_mem hi)).upd k fun q hq hq2 => ?_
      rcases Nat.lt_or_gt_of_ne hne with h1 | h1
      · exact hpw j i hj hi h1 q hq2 hq
      · exact hpw i j hi hj h1 q hq hq2
  · have hm : (L.set j m).map Maker.la = L.map Maker.la := by
      rw [List.map_set, hla]
      have h9 : (L.map Maker.la).set j ((L.map Maker.la)[j]'(by simpa using hj)) = L.map Maker.la := List.set_getElem_self _
      rw [List.getElem_map] at h9
      exact h9
    have h1 : (L.map Maker.la).Pairwise fun x y => ∀ k, inBlock x k → ¬ inBlock y k := List.pairwise_map.2 h.ap
    rw [← hm] at h1
    have h2 := List.pairwise_map.1 h1
    exact h2
set_option maxRecDepth 20000 in
set_option maxHeartbeats 3200000 in
theorem lDoes (w0 : World) (a : Option Addr) (c : Nat) (l : List DOp) (hl : SlI w0 a l) (hb : ∀ x ∈ l, inOp w0 x) :
    Ct Try.prog 8 #[.slice a l.length c] w0 fun v w' => v = .bool true ∧ Ext w0 w' := by
  refine Ct.intro1 Try.func8 Try.ntmps8 rfl rfl (by decide) rfl ?_
  have H : Ext w0 w0 := Ext.refl w0
  refine WP.regionS ?_
  refine RL.r (asgB rfl) rfl ?_
  refine RL.nil ?_
  refine WP.regionS ?_
  -- call stagecoach/dedup.New 
  have hs0 := H.size
  refine RL.call (pNew _) rfl rfl ?_
  rintro v w1 ⟨⟨it, m, rfl, hbt, hmm⟩, hx⟩
  replace H := H.ext hx
  have hT := tg_new hbt hmm
  replace hT := hT.mono hs0
  have hT1l := fun (k : Nat) (hz : terr it m none [] k) => (hT.old hz).2
  refine RL.r (bld rfl rfl) rfl ?_
  refine RL.boxS w0.heap.size H.size rfl rfl ?_
  intro w2 i26 hi26 hx hb26
  replace H := H.ext hx; replace hT := hT.ext hx; clear hx
  have hR := tr_new hb26
  have hA := apt_new hT1l hi26
  refine RL.r (asgP rfl) rfl ?_
  refine RL.r (asgP rfl) rfl ?_
  refine RL.nil ?_
  refine WP.seq ?_
  refine WP.regionS ?_
  refine RL.r (mvP rfl) rfl ?_
  refine RL.r (peqn rfl rfl) rfl ?_
  refine RL.nil ?_
  refine WP.cond rfl (fun hc => ?_) (fun hc => ?_)
  · refine WP.regionS ?_
    refine RL.r (asgB rfl) rfl ?_
    refine RL.nil ?_
    refine WP.ret ?_
    refine fin1_ret rfl ⟨absurd hc (by simp), H⟩
  · refine WP.skip ?_
    refine WP.seq ?_
    refine WP.regionS ?_
    refine RL.r (asgI rfl) rfl ?_
    refine RL.nil ?_
    refine WP.block ?_
    refine WP.loop (fun k e' w' => ∃ j : Nat, ∃ (D : Ds) (it : Nat) (Z Y : Nat → Prop),  j + k = min l.length 60 ∧ Head [2, 3, 5, 6, 7, 8, 9, 10, 11, 12, 13, 14, 15, 16, 17, 18, 19, 20, 21, 22, 23, 29, 30, 31, 32, 33, 34, 35, 36, 37, 38, 39, 40, 41, 42, 43, 44, 45, 46, 47, 48, 49, 50, 51, 52, 53, 54, 55, 56, 57, 58, 59, 60, 61, 62, 63, 64, 65, 66, 67, 68, 69, 70, 71, 72, 73, 74, 75, 76, 77, 78, 79, 80, 81, 82, 83, 84, 85, 86, 87, 88, 89, 90, 91, 92, 93, 94, 95, 96, 97, 98, 99, 100, 101, 102, 103, 104, 105, 106, 107, 108, 109, 110, 111, 112, 113, 114, 115, 116, 117, 118, 119, 120, 121, 122, 123, 124, 125, 126, 127, 128, 129, 130, 131, 132, 133, 134, 135, 136, 137, 138, 139, 140, 141, 142, 143, 144, 145, 146, 147, 148, 149, 150, 151, 152, 153, 154, 155, 156, 157, 158, 159, 160, 161, 162, 163, 164, 165, 166, 167, 168, 169, 170, 171, 172, 173] _ [(3, .pointer (some ⟨it, 0, none⟩)), (5, .int .i64 (j : Int))] e' ∧ Ext w0 w' ∧ Tg w0.heap.size w' it Z D ∧ Tr w0.heap.size w' i26 Y D ∧ Apt Z Y ∧ okD (20 * (j : Int)) j D ∧ topT D) (min l.length 60)
      ⟨0, d0, it, _, _, by omega, Head.intro (AgreeOff.refl _ _) ⟨rfl, rfl, trivial⟩, H, hT, hR, hA, okD0, topT0⟩ ?_
    clear H hT hR
    rintro k e w3 ⟨j, D, it, Z, Y, hjk, ⟨jk, rfl⟩, H, hT, hR, hA, hok, htop⟩
    refine WP.seq ?_
    refine WP.seq (WP.quiet ?_)
    refine QL.r (mvI rfl) rfl ?_
    refine QL.r (mvL rfl) rfl ?_
    refine QL.r (len_sl rfl) rfl ?_
    refine QL.r (lss rfl rfl) rfl ?_
    refine QL.r (mvB rfl) rfl ?_
    refine QL.gg (gwT rfl rfl) (fun hg => (mvI rfl).does _) rfl ?_
    refine QL.gg (gwT rfl rfl) (fun hg => (lss (gs hg rfl) rfl).does _) rfl ?_
    refine QL.r (pickAnd rfl (fun hn => gs hn rfl)) rfl ?_
    refine QL.nil ?_; intro w4 hx; replace H := H.ext hx; replace hT := hT.ext hx; replace hR := hR.ext hx
    refine WP.cond rfl (fun hc => ?_) (fun hc => ?_)
    · refine WP.skip ?_
      refine WP.seq ?_
      refine WP.block ?_
      refine WP.regionS ?_
      refine RL.r (mvL rfl) rfl ?_
      refine RL.r (mvI rfl) rfl ?_
      have hj : j < l.length := by omega
      have hin := hb l[j] (List.getElem_mem hj)
      have hl := hl (List.ne_nil_of_length_pos (by omega))
      refine RL.r (ix_o rfl rfl rfl hj (hl.someA (by decide) hj)) rfl ?_
      refine RL.m (ldS_o0 rfl hl H rfl rfl hj (by decide)) rfl ?_
      refine RL.alloc w0.heap.size H.size rfl rfl ?_
      intro w5 i6 hi6 hx hb6
      refine RL.storeS rfl hb6 rfl rfl rfl rfl ?_
      intro w6 hu hb6
      replace hx := hx.box hu (Nat.le_of_eq hi6.symm)
      replace H := H.ext hx; replace hT := hT.ext hx; replace hR := hR.ext hx; clear hx hu
      refine RL.nil ?_
      refine WP.regionS ?_
      refine RL.r (fa_box rfl) rfl ?_
      refine RL.m (ldS_box rfl hb6 (Nat.le_of_ble_eq_true rfl) rfl) rfl ?_
      -- call stagecoach/stagecoachlaw03.Bound (tmp 44)
      refine RL.call (lBound _ l[j].b (fun h => (hin.1.1 h).ext H)) rfl rfl ?_
      rintro v w7 ⟨⟨bb, rfl, hbl⟩, hx⟩
      replace H := H.ext hx; replace hb6 := hb6.ext hx; replace hT := hT.ext hx; replace hR := hR.ext hx
      refine RL.alloc w0.heap.size H.size rfl rfl ?_
      intro w8 i7 hi7 hx hb7
      have ne6_7 := hb6.ne hi7
      refine RL.storeS rfl hb7 rfl rfl rfl rfl ?_
      intro w9 hu hb7
      replace hx := hx.box hu (Nat.le_of_eq hi7.symm)
      replace H := H.ext hx; replace hb6 := hb6.ext hx; replace hT := hT.ext hx; replace hR := hR.ext hx; clear hx hu
      refine RL.nil ?_
      refine WP.seq ?_
      refine WP.regionS ?_
      refine RL.r (fa_box rfl) rfl ?_
      refine RL.m (ld_box rfl hb6 rfl) rfl ?_
      refine RL.nil ?_
      obtain ⟨D9, hD9⟩ : ∃ D9, D9 = stepD D l[j].kind l[j].id l[j].off l[j].part bb := ⟨_, rfl⟩
      refine WP.cut (α := Nat × (Nat → Prop) × (Nat → Prop)) [2, 3, 8, 9, 10, 11, 12, 13, 14, 15, 16, 17, 18, 19, 20, 21, 48, 49, 50, 51, 52, 53, 54, 55, 56, 57, 58, 59, 60, 61, 62, 63, 64, 65, 66, 67, 68, 69, 70, 71, 72, 73, 74, 75, 76, 77, 78, 79, 80, 81, 82, 83, 84, 85, 86, 87, 88, 89, 90, 91, 92, 93, 94, 95, 96, 97, 98, 99, 100, 101, 102, 103, 104, 105, 106, 107, 108, 109, 110, 111, 112, 113, 114, 115, 116, 117, 118, 119, 120, 121, 122, 123, 124, 125, 126, 127, 128, 129, 130, 131, 132, 133, 134, 135, 136, 137, 138, 139, 140, 141, 142, 143, 144, 145, 146, 147] (fun x => [(3, .pointer (some ⟨x.1, 0, none⟩))]) (fun x w' => Ext w0 w' ∧ Box w0.heap.size w' i6 30 (Lies.enc l[j]) ∧ Box w0.heap.size w' i7 28 (Lies.enc bb) ∧ Tg w0.heap.size w' x.1 x.2.1 D9 ∧ Tr w0.heap.size w' i26 x.2.2 D9 ∧ Apt x.2.1 x.2.2) ?_ ?_
      · refine WP.block ?_
        refine WP.regionS ?_
        refine RL.r (eql rfl rfl) rfl ?_
        refine RL.r (asgB rfl) rfl ?_
        refine RL.nil ?_
        refine WP.cond rfl (fun hc => ?_) (fun hc => ?_)
        · refine WP.regionS ?_
          refine RL.r (mvP rfl) rfl ?_
          refine RL.r (fa_box rfl) rfl ?_
          refine RL.m (ld_box rfl hb6 rfl) rfl ?_
          -- call (*stagecoach/dedup.Table).Open (tmp 51) (tmp 53)
          have hYl := fun (k : Nat) (hk : Y k) => (hR.old hk).2
          refine RL.call (pOpenT _ _ it Z D hT _ _ hok l[j].id) rfl rfl ?_
          rintro v w10 ⟨⟨r3, s3, e3, ha3, rfl, Z2, hT2, hgr⟩, hx⟩
          replace H := ext_z H hT (Nat.le_refl _) hx; replace hb6 := box_z hb6 hT (by decide) (by decide) (by decide) hx; replace hb7 := box_z hb7 hT (by decide) (by decide) (by decide) hx; replace hR := hR.upd hx (fun j hj hz => hA j hz hj)
          replace hA := hA.grew hgr hYl
          replace hT := hT2; clear hT2
          refine RL.r (mvU rfl) rfl ?_
          refine RL.r (ex0 rfl) rfl ?_
          refine RL.r (ex1 rfl) rfl ?_
          refine RL.r (ex2 rfl) rfl ?_
          refine RL.r (asgI rfl) rfl ?_
          refine RL.r (asgI rfl) rfl ?_
          refine RL.r (asgI rfl) rfl ?_
          refine RL.nil ?_
          refine WP.regionS ?_
          refine RL.r (mvP rfl) rfl ?_
          refine RL.r (fa_box rfl) rfl ?_
          refine RL.m (ld_box rfl hb6 rfl) rfl ?_
          -- call (*stagecoach/stagecoachref08.Table).Open (tmp 59) (tmp 61)
          have hZl := fun (k : Nat) (hk : Z2 k) => (hT.old hk).2
          refine RL.call (rOpenT _ _ i26 Y D hR _ _ hok (by omega) l[j].id) rfl rfl ?_
          rintro v w11 ⟨⟨r4, s4, e4, ha4, rfl, Y2, hR2, hgr⟩, hx⟩
          replace H := ext_y H hR (Nat.le_refl _) hx; replace hb6 := box_y hb6 hR (by decide) (by decide) (by decide) (by decide) hx; replace hb7 := box_y hb7 hR (by decide) (by decide) (by decide) (by decide) hx; replace hT := hT.upd hx (fun j hj hy => hA j hj hy)
          replace hA := (hA.symm.grew hgr hZl).symm
          replace hR := hR2; clear hR2
          refine RL.r (mvU rfl) rfl ?_
          refine RL.r (ex0 rfl) rfl ?_
          refine RL.r (ex1 rfl) rfl ?_
          refine RL.r (ex2 rfl) rfl ?_
          refine RL.r (asgI rfl) rfl ?_
          refine RL.r (asgI rfl) rfl ?_
          refine RL.r (asgI rfl) rfl ?_
          refine RL.nil ?_
          refine WP.seq (WP.quiet ?_)
          refine QL.r (mvI rfl) rfl ?_
          refine QL.r (mvI rfl) rfl ?_
          refine QL.r (neq rfl rfl) rfl ?_
          refine QL.r (mvB rfl) rfl ?_
          refine QL.gg (gwF rfl rfl) (fun hg => (mvI rfl).does _) rfl ?_
          refine QL.gg (gwF rfl rfl) (fun hg => (mvI rfl).does _) rfl ?_
          refine QL.gg (gwF rfl rfl) (fun hg => (neq (gs hg rfl) (gs hg rfl)).does _) rfl ?_
          refine QL.r (pickOr rfl (fun hn => gs hn rfl)) rfl ?_
          refine QL.r (mvB rfl) rfl ?_
          refine QL.gg (gwF rfl rfl) (fun hg => (mvI rfl).does _) rfl ?_
          refine QL.gg (gwF rfl rfl) (fun hg => (mvI rfl).does _) rfl ?_
          refine QL.gg (gwF rfl rfl) (fun hg => (neq (gs hg rfl) (gs hg rfl)).does _) rfl ?_
          refine QL.r (pickOr rfl (fun hn => gs hn rfl)) rfl ?_
          refine QL.nil ?_; intro w12 hx; replace H := H.ext hx; replace hb6 := hb6.ext hx; replace hb7 := hb7.ext hx; replace hT := hT.ext hx; replace hR := hR.ext hx
          refine WP.cond rfl (fun hc => ?_) (fun hc => ?_)
          · refine WP.regionS ?_
            refine RL.r (asgB rfl) rfl ?_
            refine RL.nil ?_
            refine WP.ret ?_
            have hbad : False := by
              have h9 := ha3.symm.trans ha4
              simp only [Prod.mk.injEq] at h9
              rcases hc with (hc | hc) | hc
              · exact hc h9.1
              · exact hc h9.2.1
              · exact hc h9.2.2
            refine fin1_ret rfl ⟨hbad.elim, H⟩
          · refine WP.skip ?_
            have hs9 : D9 = openD D l[j].id := by rw [hD9]; unfold stepD; rw [if_pos (by assumption)]
            rw [← hs9] at hT hR
            refine ⟨(it, Z2, Y2), Head.intro (by repeat (first | with_reducible exact AgreeOff.refl _ _ | with_reducible exact AgreeOff.mix _ _ _ | refine AgreeOff.look rfl ?_ | refine AgreeOff.mixs rfl ?_)) ⟨rfl, trivial⟩, H, hb6, hb7, hT, hR, hA⟩
        · refine WP.regionS ?_
          refine RL.r (eql rfl rfl) rfl ?_
          refine RL.r (asgB rfl) rfl ?_
          refine RL.nil ?_
          refine WP.cond rfl (fun hc => ?_) (fun hc => ?_)
          · refine WP.regionS ?_
            refine RL.r (mvP rfl) rfl ?_
            refine RL.r (fa_box rfl) rfl ?_
            refine RL.m (ldS_box rfl hb6 (Nat.le_of_ble_eq_true rfl) rfl) rfl ?_
            refine RL.m (ldS_box rfl hb7 (Nat.le_of_ble_eq_true rfl) rfl) rfl ?_
            -- call (*stagecoach/dedup.Table).Ask (tmp 82) (tmp 84) (tmp 85)
            refine RL.call (pAskT _ _ it Z D hT _ _ hok (by omega) l[j].part bb) rfl rfl ?_
            rintro v w13 ⟨⟨r5, t5, e5, ha5, rfl⟩, hx⟩
            replace H := H.ext hx; replace hb6 := hb6.ext hx; replace hb7 := hb7.ext hx; replace hT := hT.ext hx; replace hR := hR.ext hx
            refine RL.r (mvU rfl) rfl ?_
            refine RL.r (ex0 rfl) rfl ?_
            refine RL.r (ex1 rfl) rfl ?_
            refine RL.r (ex2 rfl) rfl ?_
            refine RL.r (asgI rfl) rfl ?_
            refine RL.r (asgB rfl) rfl ?_
            refine RL.r (asgI rfl) rfl ?_
            refine RL.nil ?_
            refine WP.regionS ?_
            refine RL.r (mvP rfl) rfl ?_
            refine RL.r (fa_box rfl) rfl ?_
            refine RL.m (ldS_box rfl hb6 (Nat.le_of_ble_eq_true rfl) rfl) rfl ?_
            refine RL.m (ldS_box rfl hb7 (Nat.le_of_ble_eq_true rfl) rfl) rfl ?_
            -- call (*stagecoach/stagecoachref08.Table).Ask (tmp 91) (tmp 93) (tmp 94)
            refine RL.call (rAskT _ _ i26 Y D hR _ _ hok (by omega) (by omega) l[j].part bb) rfl rfl ?_
            rintro v w14 ⟨⟨r6, t6, e6, ha6, rfl⟩, hx⟩
            replace H := H.ext hx; replace hb6 := hb6.ext hx; replace hb7 := hb7.ext hx; replace hT := hT.ext hx; replace hR := hR.ext hx
            refine RL.r (mvU rfl) rfl ?_
            refine RL.r (ex0 rfl) rfl ?_
            refine RL.r (ex1 rfl) rfl ?_
            refine RL.r (ex2 rfl) rfl ?_
            refine RL.r (asgI rfl) rfl ?_
            refine RL.r (asgB rfl) rfl ?_
            refine RL.r (asgI rfl) rfl ?_
            refine RL.nil ?_
            refine WP.seq (WP.quiet ?_)
            refine QL.r (mvI rfl) rfl ?_
            refine QL.r (mvI rfl) rfl ?_
            refine QL.r (neq rfl rfl) rfl ?_
            refine QL.r (mvB rfl) rfl ?_
            refine QL.gg (gwF rfl rfl) (fun hg => (mvB rfl).does _) rfl ?_
            refine QL.gg (gwF rfl rfl) (fun hg => (mvB rfl).does _) rfl ?_
            refine QL.gg (gwF rfl rfl) (fun hg => (bneq (gs hg rfl) (gs hg rfl)).does _) rfl ?_
            refine QL.r (pickOr rfl (fun hn => gs hn rfl)) rfl ?_
            refine QL.r (mvB rfl) rfl ?_
            refine QL.gg (gwF rfl rfl) (fun hg => (mvI rfl).does _) rfl ?_
            refine QL.gg (gwF rfl rfl) (fun hg => (mvI rfl).does _) rfl ?_
            refine QL.gg (gwF rfl rfl) (fun hg => (neq (gs hg rfl) (gs hg rfl)).does _) rfl ?_
            refine QL.r (pickOr rfl (fun hn => gs hn rfl)) rfl ?_
            refine QL.nil ?_; intro w15 hx; replace H := H.ext hx; replace hb6 := hb6.ext hx; replace hb7 := hb7.ext hx; replace hT := hT.ext hx; replace hR := hR.ext hx
            refine WP.cond rfl (fun hc => ?_) (fun hc => ?_)
            · refine WP.regionS ?_
              refine RL.r (asgB rfl) rfl ?_
              refine RL.nil ?_
              refine WP.ret ?_
              have hbad : False := by
                have h9 := ha5.symm.trans ha6
                simp only [Prod.mk.injEq] at h9
                rcases hc with (hc | hc) | hc
                · exact hc h9.1
                · exact hc (by rw [h9.2.1])
                · exact hc h9.2.2
              refine fin1_ret rfl ⟨hbad.elim, H⟩
            · refine WP.skip ?_
              have hs9 : D9 = D := by rw [hD9]; unfold stepD; rw [if_neg (by assumption), if_pos (by assumption)]
              rw [← hs9] at hT hR
              refine ⟨(it, Z, Y), Head.intro (by repeat (first | with_reducible exact AgreeOff.refl _ _ | with_reducible exact AgreeOff.mix _ _ _ | refine AgreeOff.look rfl ?_ | refine AgreeOff.mixs rfl ?_)) ⟨rfl, trivial⟩, H, hb6, hb7, hT, hR, hA⟩
          · refine WP.regionS ?_
            refine RL.r (eql rfl rfl) rfl ?_
            refine RL.r (asgB rfl) rfl ?_
            refine RL.nil ?_
            refine WP.cond rfl (fun hc => ?_) (fun hc => ?_)
            · refine WP.regionS ?_
              refine RL.r (mvP rfl) rfl ?_
              refine RL.r (fa_box rfl) rfl ?_
              refine RL.m (ldS_box rfl hb6 (Nat.le_of_ble_eq_true rfl) rfl) rfl ?_
              refine RL.m (ldS_box rfl hb7 (Nat.le_of_ble_eq_true rfl) rfl) rfl ?_
              refine RL.r (fa_box rfl) rfl ?_
              refine RL.m (ld_box rfl hb6 rfl) rfl ?_
              -- call (*stagecoach/dedup.Table).Done (tmp 114) (tmp 116) (tmp 117) (tmp 119)
              have hYl := fun (k : Nat) (hk : Y k) => (hR.old hk).2
              refine RL.call (pDone _ _ it Z D hT _ _ hok (by omega) l[j].part bb l[j].off) rfl rfl ?_
              rintro _ w16 ⟨⟨rfl, Z2, hT2, hgr⟩, hx⟩
              replace H := ext_z H hT (Nat.le_refl _) hx; replace hb6 := box_z hb6 hT (by decide) (by decide) (by decide) hx; replace hb7 := box_z hb7 hT (by decide) (by decide) (by decide) hx; replace hR := hR.upd hx (fun j hj hz => hA j hz hj)
              replace hA := hA.grew hgr hYl
              replace hT := hT2; clear hT2
              refine RL.r (asgI rfl) rfl ?_
              refine RL.nil ?_
              refine WP.regionS ?_
              refine RL.r (mvI rfl) rfl ?_
              refine RL.r (mvP rfl) rfl ?_
              refine RL.r (fa_box rfl) rfl ?_
              refine RL.m (ldS_box rfl hb6 (Nat.le_of_ble_eq_true rfl) rfl) rfl ?_
              refine RL.m (ldS_box rfl hb7 (Nat.le_of_ble_eq_true rfl) rfl) rfl ?_
              refine RL.r (fa_box rfl) rfl ?_
              refine RL.m (ld_box rfl hb6 rfl) rfl ?_
              -- call (*stagecoach/stagecoachref08.Table).Done (tmp 122) (tmp 124) (tmp 125) (tmp 127)
              have hZl := fun (k : Nat) (hk : Z2 k) => (hT.old hk).2
              refine RL.call (rDone _ _ i26 Y D hR _ _ hok (by omega) (by omega) htop l[j].part hin.2 bb l[j].off (by omega)) rfl rfl ?_
              rintro _ w17 ⟨⟨rfl, Y2, hR2, hgr⟩, hx⟩
              replace H := ext_y H hR (Nat.le_refl _) hx; replace hb6 := box_y hb6 hR (by decide) (by decide) (by decide) (by decide) hx; replace hb7 := box_y hb7 hR (by decide) (by decide) (by decide) (by decide) hx; replace hT := hT.upd hx (fun j hj hy => hA j hj hy)
              replace hA := (hA.symm.grew hgr hZl).symm
              replace hR := hR2; clear hR2
              refine RL.r (neq rfl rfl) rfl ?_
              refine RL.nil ?_
              refine WP.cond rfl (fun hc => ?_) (fun hc => ?_)
              · refine WP.regionS ?_
                refine RL.r (asgB rfl) rfl ?_
                refine RL.nil ?_
                refine WP.ret ?_
                refine fin1_ret rfl ⟨absurd rfl hc, H⟩
              · refine WP.skip ?_
                have hs9 : D9 = doneD D l[j].part bb l[j].off := by rw [hD9]; unfold stepD; rw [if_neg (by assumption), if_neg (by assumption), if_pos (by assumption)]
                rw [← hs9] at hT hR
                refine ⟨(it, Z2, Y2), Head.intro (by repeat (first | with_reducible exact AgreeOff.refl _ _ | with_reducible exact AgreeOff.mix _ _ _ | refine AgreeOff.look rfl ?_ | refine AgreeOff.mixs rfl ?_)) ⟨rfl, trivial⟩, H, hb6, hb7, hT, hR, hA⟩
            · refine WP.regionS ?_
              refine RL.r (eql rfl rfl) rfl ?_
              refine RL.r (asgB rfl) rfl ?_
              refine RL.nil ?_
              refine WP.cond rfl (fun hc => ?_) (fun hc => ?_)
              · refine WP.regionS ?_
                refine RL.r (mvP rfl) rfl ?_
                refine RL.r (asgP rfl) rfl ?_
                refine RL.nil ?_
                refine WP.regionS ?_
                refine RL.r (mvP rfl) rfl ?_
                -- call (*stagecoach/dedup.Table).Copy (tmp 133)
                have hsC := H.size
                have hZc := fun (k : Nat) (hk : Z k) => (hT.old hk).2
                have hYl := fun (k : Nat) (hk : Y k) => (hR.old hk).2
                refine RL.call (pCopy _ _ it Z D hT _ _ hok) rfl rfl ?_
                rintro v w18 ⟨⟨it2, Zc, rfl, hC⟩, hx⟩
                replace H := H.ext hx; replace hb6 := hb6.ext hx; replace hb7 := hb7.ext hx; replace hT := hT.ext hx; replace hR := hR.ext hx
                have hAc : Apt Zc Y := fun k h1 h2 => by have h3 := (hC.old h1).1; have h4 := hYl k h2; omega
                have hAz : Apt Z Zc := fun k h1 h2 => by have h3 := (hC.old h2).1; have h4 := hZc k h1; omega
                replace hC := hC.mono hsC
                refine RL.r (asgP rfl) rfl ?_
                refine RL.nil ?_
                refine WP.regionS ?_
                refine RL.r (mvP rfl) rfl ?_
                -- call (*stagecoach/dedup.Table).Open (tmp 135) (const (int i64 0))
                have hZl := fun (k : Nat) (hk : Zc k) => (hC.old hk).2
                have hYl := fun (k : Nat) (hk : Y k) => (hR.old hk).2
                refine RL.call (pOpen _ _ it Z D hT _ _ hok 0) rfl rfl ?_
                rintro _ w19 ⟨⟨rfl, Z2, hT2, hgr⟩, hx⟩
                replace H := ext_z H hT (Nat.le_refl _) hx; replace hb6 := box_z hb6 hT (by decide) (by decide) (by decide) hx; replace hb7 := box_z hb7 hT (by decide) (by decide) (by decide) hx; replace hR := hR.upd hx (fun j hj hz => hA j hz hj); replace hC := hC.upd hx (fun j hj hz => hAz j hz hj)
                replace hA := hA.grew hgr hYl
                replace hAz := hAz.grew hgr hZl
                replace hT := hT2; clear hT2
                refine RL.nil ?_
                refine WP.regionS ?_
                refine RL.r (mvP rfl) rfl ?_
                refine RL.r (fa_box rfl) rfl ?_
                refine RL.m (ld_box rfl hb6 rfl) rfl ?_
                -- call (*stagecoach/dedup.Table).Open (tmp 137) (tmp 139)
                have hZl := fun (k : Nat) (hk : Zc k) => (hC.old hk).2
                have hYl := fun (k : Nat) (hk : Y k) => (hR.old hk).2
                refine RL.call (pOpen _ _ it Z2 _ hT _ _ (okD_open hok 0) l[j].id) rfl rfl ?_
                rintro _ w20 ⟨⟨rfl, Z3, hT2, hgr⟩, hx⟩
                replace H := ext_z H hT (Nat.le_refl _) hx; replace hb6 := box_z hb6 hT (by decide) (by decide) (by decide) hx; replace hb7 := box_z hb7 hT (by decide) (by decide) (by decide) hx; replace hR := hR.upd hx (fun j hj hz => hA j hz hj); replace hC := hC.upd hx (fun j hj hz => hAz j hz hj)
                replace hA := hA.grew hgr hYl
                replace hAz := hAz.grew hgr hZl
                replace hT := hT2; clear hT2
                refine RL.nil ?_
                refine WP.regionS ?_
                refine RL.r (mvP rfl) rfl ?_
                refine RL.r (fa_box rfl) rfl ?_
                refine RL.m (ldS_box rfl hb6 (Nat.le_of_ble_eq_true rfl) rfl) rfl ?_
                refine RL.m (ldS_box rfl hb7 (Nat.le_of_ble_eq_true rfl) rfl) rfl ?_
                -- call (*stagecoach/dedup.Table).Done (tmp 141) (tmp 143) (tmp 144) (const (int i64 5))
                have hZl := fun (k : Nat) (hk : Zc k) => (hC.old hk).2
                have hYl := fun (k : Nat) (hk : Y k) => (hR.old hk).2
                refine RL.call (pDone _ _ it Z3 _ hT _ _ (okD_open (okD_open hok 0) l[j].id) (by omega) l[j].part bb 5) rfl rfl ?_
                rintro _ w21 ⟨⟨rfl, Z4, hT2, hgr⟩, hx⟩
                replace H := ext_z H hT (Nat.le_refl _) hx; replace hb6 := box_z hb6 hT (by decide) (by decide) (by decide) hx; replace hb7 := box_z hb7 hT (by decide) (by decide) (by decide) hx; replace hR := hR.upd hx (fun j hj hz => hA j hz hj); replace hC := hC.upd hx (fun j hj hz => hAz j hz hj)
                replace hA := hA.grew hgr hYl
                replace hAz := hAz.grew hgr hZl
                replace hT := hT2; clear hT2
                refine RL.nil ?_
                refine WP.regionS ?_
                refine RL.r (mvP rfl) rfl ?_
                refine RL.r (peqn rfl rfl) rfl ?_
                refine RL.nil ?_
                refine WP.cond rfl (fun hc => ?_) (fun hc => ?_)
                · refine WP.regionS ?_
                  refine RL.r (asgB rfl) rfl ?_
                  refine RL.nil ?_
                  refine WP.ret ?_
                  refine fin1_ret rfl ⟨absurd hc (by simp), H⟩
                · refine WP.skip ?_
                  replace hT := hC
                  have hs9 : D9 = D := by rw [hD9]; unfold stepD; rw [if_neg (by assumption), if_neg (by assumption), if_neg (by assumption)]
                  rw [← hs9] at hT hR
                  refine ⟨(it2, Zc, Y), Head.intro (by repeat (first | with_reducible exact AgreeOff.refl _ _ | with_reducible exact AgreeOff.mix _ _ _ | refine AgreeOff.look rfl ?_ | refine AgreeOff.mixs rfl ?_)) ⟨rfl, trivial⟩, H, hb6, hb7, hT, hR, hAc⟩
              · refine WP.skip ?_
                have hs9 : D9 = D := by rw [hD9]; unfold stepD; rw [if_neg (by assumption), if_neg (by assumption), if_neg (by assumption)]
                rw [← hs9] at hT hR
                refine ⟨(it, Z, Y), Head.intro (by repeat (first | with_reducible exact AgreeOff.refl _ _ | with_reducible exact AgreeOff.mix _ _ _ | refine AgreeOff.look rfl ?_ | refine AgreeOff.mixs rfl ?_)) ⟨rfl, trivial⟩, H, hb6, hb7, hT, hR, hA⟩
      rintro ⟨it9, Z9, Y9⟩ jc w22 ⟨H, hb6, hb7, hT, hR, hA⟩
      refine WP.seq ?_
      refine WP.regionS ?_
      refine RL.r (mvP rfl) rfl ?_
      refine RL.r (mvP rfl) rfl ?_
      -- call stagecoach/stagecoachlaw08.same (tmp 148) (tmp 149)
      dsimp only at hT hR hA
      have hok9 : okD (20 * ((j + 1 : Nat) : Int)) (j + 1) D9 := by rw [hD9]; exact (okD_step hok (by omega) _ _ _ _ _ hbl).mono (by omega) (Nat.le_refl _)
      have htop9 : topT D9 := by rw [hD9]; exact topT_step htop _ _ _ hin.2 _
      refine RL.call (lSame _ _ _ it9 i26 Z9 Y9 D9 hT hR _ _ hok9 (by omega)) rfl rfl ?_
      rintro v w23 ⟨⟨t13, ht13, rfl⟩, hx⟩
      replace H := H.ext hx; replace hb6 := hb6.ext hx; replace hb7 := hb7.ext hx; replace hT := hT.ext hx; replace hR := hR.ext hx
      first | refine RL.r (notD rfl) rfl ?_ | refine RL.r (not_ rfl) rfl ?_
      refine RL.nil ?_
      refine WP.cond rfl (fun hc => ?_) (fun hc => ?_)
      · refine WP.regionS ?_
        refine RL.r (asgB rfl) rfl ?_
        refine RL.nil ?_
        refine WP.ret ?_
        refine fin1_ret rfl ⟨absurd ht13 hc, H⟩
      · refine WP.skip ?_
        refine WP.regionS ?_
        refine RL.r (mvP rfl) rfl ?_
        -- call (*stagecoach/dedup.Table).Makers (tmp 152)
        obtain ⟨wM, hwM⟩ : ∃ wM, wM = w23 := ⟨_, rfl⟩
        subst hwM
        have hT19 := hT
        have hR19 := hR
        have hsM := H.size
        have h6l := hb6.lt
        have h7l := hb7.lt
        refine RL.call (pMakers _ _ it9 Z9 D9 hT _ _ hok9 (by omega)) rfl rfl ?_
        rintro v w24 ⟨⟨aM, cM, Lm, rfl, hM, hMO, hMm⟩, hx⟩
        replace H := H.ext hx; replace hb6 := hb6.ext hx; replace hb7 := hb7.ext hx; replace hT := hT.ext hx; replace hR := hR.ext hx
        have H19 := hx
        refine RL.r (asgL rfl) rfl ?_
        refine RL.nil ?_
        refine WP.regionS ?_
        refine RL.r (asgI rfl) rfl ?_
        refine RL.nil ?_
        refine WP.block ?_
        refine WP.loop (fun k1 e' w' => ∃ j1 : Nat, ∃ L1 : List Maker,  j1 + k1 = Lm.length ∧ Head [23, 154, 155, 156, 157, 158, 159, 160, 161, 162, 163, 164, 165, 166, 167, 168, 169, 170, 171, 172, 173] _ [(23, .int .i64 (j1 : Int))] e' ∧ Ext w0 w' ∧ Box w0.heap.size w' i6 30 (Lies.enc l[j]) ∧ Box w0.heap.size w' i7 28 (Lies.enc bb) ∧ Own wM.heap.size w' 33 aM cM L1 ∧ OwnsD wM.heap.size w' L1 ∧ L1.length = Lm.length ∧ Ext wM w') (Lm.length)
          ⟨0, Lm, by omega, Head.intro (AgreeOff.refl _ _) ⟨rfl, trivial⟩, H, hb6, hb7, hM, hMO, rfl, H19⟩ ?_
        clear H hb6 hb7 hM hMO H19
        rintro k1 e w25 ⟨j1, L1, hjk1, ⟨jk1, rfl⟩, H, hb6, hb7, hM, hMO, hLl, H19⟩
        have hLS : Lm.length = D9.S.length := by have h9 := congrArg List.length hMm; simpa using h9
        have hcnt := hok9.cnt
        refine WP.seq ?_
        refine WP.regionS ?_
        refine RL.r (mvI rfl) rfl ?_
        refine RL.r (mvL rfl) rfl ?_
        refine RL.r (len_sl rfl) rfl ?_
        refine RL.r (lss rfl rfl) rfl ?_
        refine RL.nil ?_
        refine WP.cond rfl (fun hc => ?_) (fun hc => ?_)
        · refine WP.skip ?_
          refine WP.seq ?_
          refine WP.block ?_
          refine WP.regionS ?_
          refine RL.r (mvL rfl) rfl ?_
          refine RL.r (mvI rfl) rfl ?_
          have hj1 : j1 < L1.length := by omega
          have hjm : j1 < Lm.length := by omega
          obtain ⟨qM, hqM⟩ := hM.sl.isAddr (by decide) hj1
          subst hqM
          refine RL.r (ix_o rfl rfl rfl hjm (Option.some_ne_none _)) rfl ?_
          refine RL.r (fa_el hM.sl.1 rfl) rfl ?_
          refine RL.m (ld_el rfl hM.sl (Ext.refl _) rfl hj1 rfl) rfl ?_
          refine RL.r (len_sl rfl) rfl ?_
          refine RL.r (gtr rfl rfl) rfl ?_
          refine RL.nil ?_
          refine WP.cond rfl (fun hc => ?_) (fun hc => ?_)
          · refine WP.region ?_
            refine RL.r (mvL rfl) rfl ?_
            refine RL.r (mvI rfl) rfl ?_
            have hrow := hMO.own _ (List.getElem_mem hj1)
            have hk0 : 0 < L1[j1].last.length := by omega
            obtain ⟨q4, hq4⟩ := hrow.sl.isAddr (by decide) hk0
            have hrow4 := hrow
            rw [hq4] at hrow4
            refine RL.r (ix_o rfl rfl rfl hjm (Option.some_ne_none _)) rfl ?_
            refine RL.r (fa_el hM.sl.1 rfl) rfl ?_
            refine RL.m (ld_el rfl hM.sl (Ext.refl _) rfl hj1 (show (Lies.enc L1[j1])[4]? = some (.slice (some q4) L1[j1].last.length L1[j1].lc) by rw [← hq4]; rfl)) rfl ?_
            refine RL.r (ix_o rfl rfl rfl hk0 (Option.some_ne_none _)) rfl ?_
            refine RL.r (fa_el hrow4.sl.1 rfl) rfl ?_
            refine RL.setOwn (u := (⟨L1[j1].last[0].seq, L1[j1].last[0].n, 99⟩ : Did)) (i := 0) (off := 2) (v := .int .i64 99) (vs := [.int .i64 99]) rfl hrow4 hk0 rfl rfl rfl (Nat.le_of_ble_eq_true rfl) rfl (fun v hv => by obtain rfl := List.mem_singleton.1 hv; rfl) ?_
            intro w99 hu hrow2
            replace hb6 := hb6.upd hu (fun h => by have := (hrow4.blk h).1; omega)
            replace hb7 := hb7.upd hu (fun h => by have := (hrow4.blk h).1; omega)
            replace hM := hM.upd hu (fun j hj e => hM.apart hrow4 (by decide) hj e)
            replace H := H.upd hu (fun k hk => by have := (hrow4.blk hk).1; omega)
            replace H19 := Ext.own H19 hrow4 hu
            have hset := hMO.set (m := ⟨L1[j1].id, L1[j1].epoch, L1[j1].part, some q4, L1[j1].lc, L1[j1].last.set 0 ⟨L1[j1].last[0].seq, L1[j1].last[0].n, 99⟩⟩) hj1 hq4.symm hrow2 (by rw [hq4]; exact hu)
            have hM2 := own_enc (l' := L1.set j1 ⟨L1[j1].id, L1[j1].epoch, L1[j1].part, some q4, L1[j1].lc, L1[j1].last.set 0 ⟨L1[j1].last[0].seq, L1[j1].last[0].n, 99⟩⟩) hM (List.length_set ..) (set_enc hj1 (by
              show [Value.int .i64 L1[j1].id, .int .i64 L1[j1].epoch, .string L1[j1].part.topic, .int .i64 L1[j1].part.n, .slice (some q4) (L1[j1].last.set 0 _).length L1[j1].lc] = [Value.int .i64 L1[j1].id, .int .i64 L1[j1].epoch, .string L1[j1].part.topic, .int .i64 L1[j1].part.n, .slice L1[j1].la L1[j1].last.length L1[j1].lc]
              rw [List.length_set, hq4]))
            refine RL.nil ?_
            refine WP.region ?_
            refine RL.r (mvI rfl) rfl ?_
            refine RL.r (add rfl rfl (by omega)) rfl ?_
            refine RL.r (asgI rfl) rfl ?_
            refine RL.nil ?_
            refine ⟨k1 - 1, by omega, j1 + 1, _, by omega, Head.intro (by repeat (first | with_reducible exact AgreeOff.mix _ _ _ | refine AgreeOff.look rfl ?_ | refine AgreeOff.mixs rfl ?_)) ⟨rfl, trivial⟩, H, hb6, hb7, hM2, hset, by rw [List.length_set]; exact hLl, H19⟩
          · refine WP.skip ?_
            refine WP.region ?_
            refine RL.r (mvI rfl) rfl ?_
            refine RL.r (add rfl rfl (by omega)) rfl ?_
            refine RL.r (asgI rfl) rfl ?_
            refine RL.nil ?_
            refine ⟨k1 - 1, by omega, j1 + 1, L1, by omega, Head.intro (by repeat (first | with_reducible exact AgreeOff.mix _ _ _ | refine AgreeOff.look rfl ?_ | refine AgreeOff.mixs rfl ?_)) ⟨rfl, trivial⟩, H, hb6, hb7, hM, hMO, hLl, H19⟩
        · refine WP.exit ?_
          refine WP.region ?_
          refine RL.r (mvI rfl) rfl ?_
          refine RL.r (add rfl rfl (by omega)) rfl ?_
          refine RL.r (asgI rfl) rfl ?_
          refine RL.nil ?_
          refine ⟨k - 1, by omega, j + 1, D9, it9, Z9, Y9, by omega, Head.intro (by repeat (first | with_reducible exact AgreeOff.mix _ _ _ | refine AgreeOff.look rfl ?_ | refine AgreeOff.mixs rfl ?_)) ⟨rfl, rfl, trivial⟩, H, hT19.ext H19, hR19.ext H19, hA, hok9, htop9⟩
    · refine WP.exit ?_
      refine WP.regionS ?_
      -- call stagecoach/stagecoachlaw08.fixed 
      refine RL.call (lFixed _) rfl rfl ?_
      rintro _ w27 ⟨rfl, hx⟩
      replace H := H.ext hx; replace hT := hT.ext hx; replace hR := hR.ext hx
      refine RL.r (asgB rfl) rfl ?_
      refine RL.nil ?_
      refine WP.ret ?_
      refine fin1_ret rfl ⟨rfl, H⟩
end Go.Proofs.Ytbggmjnhfacjpaa
