/-
  Tells: walks and laws, written by gen/gen.py out of gen/thy/Tells.py.
-/
import Derived.Test.YtoebejfffakjpaaFixed
set_option linter.unusedVariables false
namespace Go.Proofs.Ytoebejfffakjpaa
open Go Go.Eng Go.RowKit
theorem Own.congr {α : Type} [Lies α] {B : Nat} {w : World} {T : TypeId} {a : Option Addr} {c : Nat} {l l2 : List α} (h : Own B w T a c l) (h1 : l.length = l2.length) (h2 : l.flatMap Lies.enc = l2.flatMap Lies.enc) : Own B w T a c l2 := by
  unfold Own at *
  rw [← h1, ← h2]
  exact h
/-- row i is written to, its length as it was -/
theorem GridO.setRow {α : Type} [Lies α] {T T' : TypeId} {B : Nat} {w w' : World} {a : Option Addr} {c : Nat} {g : List (Rw α)} (h : GridO T T' B w a c g) (hT : T ≠ T') {i : Nat} (hi : i < g.length) (k : Upd (inBlock g[i].a) w w') {l' : List α} (ho : Own B w' T' g[i].a g[i].c l') (hl : l'.length = g[i].l.length) : GridO T T' B w' a c (g.set i ⟨g[i].a, g[i].c, l'⟩) := by
  have h1 := h.head1 hT hi k
  have hset : (g.set i ⟨g[i].a, g[i].c, l'⟩).flatMap Lies.enc = g.flatMap Lies.enc := by
    have h2 : (g.set i ⟨g[i].a, g[i].c, l'⟩).map (Lies.enc (α := Rw α)) = g.map Lies.enc := by
      apply List.ext_getElem (by simp)
      intro n h3 h4
      simp only [List.getElem_map, List.getElem_set]
      split
      · rename_i h5; subst h5
        show [Value.slice g[i].a l'.length g[i].c] = [Value.slice g[i].a g[i].l.length g[i].c]
        rw [hl]
      · rfl
    rw [List.flatMap_def, List.flatMap_def, h2]
  refine ⟨Own.congr h1 (by simp) hset.symm, fun j hj => ?_, fun j n hj hn hjn b hb => ?_⟩
  · simp only [List.length_set] at hj
    rw [List.getElem_set]
    split
    · exact ho
    · rename_i hij
      exact (h.row j hj).upd k (fun b hb => h.apart j i hj hi (Ne.symm hij) b hb)
  · simp only [List.length_set] at hj hn
    rw [List.getElem_set] at hb ⊢
    have e1 : ∀ (x y : Nat) (hy : y < g.length) b, inBlock (if x = y then (⟨g[i].a, g[i].c, l'⟩ : Rw α) else g[y]).a b → x = i → inBlock g[y].a b := by
      intro x y hy b hb he
      subst he
      split at hb
      · rename_i h5; subst h5; exact hb
      · exact hb
    have hb1 := e1 i j hj b hb rfl
    intro hb2
    exact h.apart j n hj hn hjn b hb1 (e1 i n hn b hb2 rfl)
theorem _root_.Go.Proofs.Ytoebejfffakjpaa.Gr.ext {w w' : World} {a : Option Addr} {g : List (Rw Part)} (h : Gr w a g) (k : Ext w w') : Gr w' a g := ⟨h.1.ext k, fun r hr => (h.2 r hr).ext k⟩
theorem ldS_at {P : Program} {e : Env} {x : Operand} {t : TypeId} {w w0 : World} {α : Type} [Lies α] {p : Addr} {l : List α} {i m sz : Nat} {y : α} [hf : Agg P t sz] (hx : ev e x = elp (some p) m) (hl : Sl w0 (some p) l) (H : Ext w0 w) (hm : m = i * Lies.sz α) (hsz : Lies.sz α = sz) (hy : l[i]? = some y) : Does P e w (.load t x) (.agg (Lies.enc y).toArray) := by
  obtain ⟨hi, rfl⟩ := List.getElem?_eq_some_iff.1 hy
  exact ldS_el hx hl H hm hsz hi
theorem rangeI_len (l : List Topic) (m : List Mem) : (if checkE l m = 0 then rangeG l m else []).length ≤ m.length := by
  split
  · simp [rangeG]
  · simp
theorem robinI_len (l : List Topic) (m : List Mem) : (if checkE l m = 0 then robinG l m else []).length ≤ m.length := by
  split
  · rw [robinG, allR_length]; exact Nat.le_refl _
  · simp
theorem rangeG_le {l : List Topic} {m : List Mem} (h : checkE l m = 0) : ∀ r ∈ rangeG l m, r.length ≤ 64 := by
  obtain ⟨hl8, hlok, hm8, hmok⟩ := check_ok h
  intro r hr
  obtain ⟨i, hi, rfl⟩ := List.mem_map.1 hr
  have := row_len m i hl8 hlok l.length
  rwa [List.take_length] at this
theorem robinG_le {l : List Topic} {m : List Mem} (h : checkE l m = 0) : ∀ r ∈ robinG l m, r.length ≤ 64 := by
  obtain ⟨hl8, hlok, hm8, hmok⟩ := check_ok h
  intro r hr
  have := allR_le m l (fun t ht => by
    obtain ⟨k, hk, rfl⟩ := List.getElem_of_mem ht
    exact (hlok k hk).1.2.2) r hr
  omega
theorem rangeI_le (l : List Topic) (m : List Mem) : ∀ r ∈ (if checkE l m = 0 then rangeG l m else []), r.length ≤ 100000 := by
  intro r hr
  split at hr
  · rename_i h; have := rangeG_le h r hr; omega
  · simp at hr
theorem robinI_le (l : List Topic) (m : List Mem) : ∀ r ∈ (if checkE l m = 0 then robinG l m else []), r.length ≤ 100000 := by
  intro r hr
  split at hr
  · rename_i h; have := robinG_le h r hr; omega
  · simp at hr
theorem lFixed' (w0 : World) : Ct Try.prog 21 #[] w0 fun v w' => v = .bool (decide True) ∧ Ext w0 w' := lFixed w0
/-- the first of members, if there is one -/
theorem first_mem (b : Option Addr) (d : Nat) (M : List Mem) {w : World} (h : Sl w b M) : ∃ (p1 : Addr) (y : Mem), ¬ ((M.length : Nat) : Int) = 0 → Value.slice b M.length d = .slice (some p1) M.length d ∧ Sl w (some p1) M ∧ 0 < M.length ∧ M[0]? = some y := by
  cases M with
  | nil => exact ⟨⟨0, 0, none⟩, ⟨⟨#[]⟩, none, 0, []⟩, fun hn => absurd rfl hn⟩
  | cons y M =>
    obtain ⟨p, rfl⟩ := h.isAddr (by decide) (i := 0) (by simp)
    exact ⟨p, y, fun _ => ⟨rfl, h, by simp, rfl⟩⟩
set_option maxRecDepth 20000 in
set_option maxHeartbeats 3200000 in
theorem lTells (w0 : World) (a b : Option Addr) (c d : Nat) (l : List Topic) (m : List Mem) (p : Part) (hl : SlI w0 a l) (hm : SlI w0 b m) (hts : ∀ x ∈ m, SlI w0 x.ta x.topics) :
    Ct Try.prog 3 #[.agg [.slice a l.length c, .slice b m.length d].toArray, .agg (Lies.enc p).toArray] w0 fun v w' => v = .bool true ∧ Ext w0 w' := by
  refine Ct.intro1 Try.func3 Try.ntmps3 rfl rfl (by decide) rfl ?_
  have H : Ext w0 w0 := Ext.refl w0
  refine WP.regionS ?_
  refine RL.boxS w0.heap.size H.size rfl rfl ?_
  intro w1 i2 hi2 hx hb2
  replace H := H.ext hx; clear hx
  refine RL.boxS w0.heap.size H.size rfl rfl ?_
  intro w2 i3 hi3 hx hb3
  have ne2_3 := hb2.ne hi3
  replace H := H.ext hx; replace hb2 := hb2.ext hx; clear hx
  refine RL.r (asgB rfl) rfl ?_
  refine RL.nil ?_
  refine WP.regionS ?_
  refine RL.m (ldS_box rfl hb2 (Nat.le_of_ble_eq_true rfl) rfl) rfl ?_
  -- call stagecoach/stagecoachlaw10.cut (tmp 16)
  have H0s := H.size
  refine RL.call (lCut _ _ _ c d l m (fun h => (hl h).ext H) (fun h => (hm h).ext H) (fun x hx h => (hts x hx h).ext H)) rfl rfl ?_
  rintro _ w3 ⟨⟨a1, c1, L1, b1, d1, M1, rfl, hA⟩, hx⟩
  replace H := H.ext hx; replace hb2 := hb2.ext hx; replace hb3 := hb3.ext hx
  have hb2o := hb2
  refine RL.storeS rfl hb2 rfl rfl rfl rfl ?_
  intro w4 hu hb2
  replace H := H.box hu hb2.old; replace hb3 := hb3.upd hu (Ne.symm ne2_3)
  refine RL.nil ?_
  refine WP.regionS ?_
  refine RL.r (fa_box rfl) rfl ?_
  refine RL.m (ld_box rfl hb3 rfl) rfl ?_
  refine RL.r (fa_box rfl) rfl ?_
  refine RL.m (ld_box rfl hb3 rfl) rfl ?_
  refine RL.r (len_str rfl) rfl ?_
  refine RL.r (min_i rfl rfl) rfl ?_
  replace hA := hA.mono H0s
  replace hA := hA.box hb2o (by decide) (by decide) (by decide) hu
  have hb3o := hb3
  refine RL.r (slcS (n := min p.topic.size 40) rfl rfl (by omega) (by omega)) rfl ?_
  refine RL.r (fa_box rfl) rfl ?_
  refine RL.store1 rfl hb3 rfl rfl rfl rfl ?_
  intro w5 hu hb3
  replace H := H.box hu hb3.old; replace hb2 := hb2.upd hu ne2_3
  refine RL.nil ?_
  refine WP.seq ?_
  refine WP.regionS ?_
  refine RL.r (asgI rfl) rfl ?_
  refine RL.nil ?_
  refine WP.block ?_
  replace hA := hA.box hb3o (by decide) (by decide) (by decide) hu
  refine WP.loop (fun k e' w' => ∃ j : Nat,  j + k = 2 ∧ Head [4, 5, 6, 7, 8, 9, 10, 11, 12, 13, 14, 15, 26, 27, 28, 29, 30, 31, 32, 33, 34, 35, 36, 37, 38, 39, 40, 41, 42, 43, 44, 45, 46, 47, 48, 49, 50, 51, 52, 53, 54, 55, 56, 57, 58, 59, 60, 61, 62, 63, 64, 65, 66, 67, 68, 69, 70, 71, 72, 73, 74, 75, 76, 77, 78, 79, 80, 81, 82, 83, 84, 85, 86, 87, 88, 89, 90, 91, 92, 93, 94, 95, 96, 97, 98, 99, 100, 101, 102, 103, 104, 105, 106, 107, 108, 109, 110, 111, 112, 113, 114, 115, 116, 117, 118, 119, 120, 121, 122, 123, 124, 125, 126, 127, 128, 129, 130, 131, 132, 133, 134, 135, 136, 137] _ [(5, .int .i64 (j : Int))] e' ∧ Ext w0 w' ∧ Box w0.heap.size w' i2 25 [.slice a1 L1.length c1, .slice b1 M1.length d1] ∧ Box w0.heap.size w' i3 27 (Lies.enc (⟨p.topic.extract 0 (min p.topic.size 40), p.n⟩ : Part)) ∧ Asked w0.heap.size w' a1 c1 L1 b1 d1 M1) (2)
    ⟨0, by omega, Head.intro (AgreeOff.refl _ _) ⟨rfl, trivial⟩, H, hb2, hb3, hA⟩ ?_
  clear H hb2 hb3
  rintro k e w6 ⟨j, hjk, ⟨jk, rfl⟩, H, hb2, hb3, hA⟩
  have HA := Ext.refl w6; have hb26 := hb2; have hb36 := hb3; have H06 := H; have hs6 := H.size; have hmn := hA.mn
  refine WP.seq ?_
  refine WP.regionS ?_
  refine RL.r (mvI rfl) rfl ?_
  refine RL.r (lss rfl rfl) rfl ?_
  refine RL.nil ?_
  refine WP.cond rfl (fun hc => ?_) (fun hc => ?_)
  · refine WP.skip ?_
    refine WP.seq ?_
    refine WP.block ?_
    refine WP.regionS ?_
    refine RL.r (fa_box rfl) rfl ?_
    refine RL.m (ld_box rfl hb2 rfl) rfl ?_
    refine RL.r (fa_box rfl) rfl ?_
    refine RL.m (ld_box rfl hb2 rfl) rfl ?_
    -- call stagecoach/assign.Range (tmp 32) (tmp 34)
    refine RL.call (pRange w6 _ _ c1 d1 L1 M1 hA.ol.sl hA.om.sl hA.ts) rfl rfl ?_
    rintro _ w7 ⟨⟨qa, ca, ga, rfl, hGa, hra⟩, hx⟩
    replace H := H.ext hx; replace hb2 := hb2.ext hx; replace hb3 := hb3.ext hx; replace HA := HA.ext hx
    refine RL.r (mvU rfl) rfl ?_
    refine RL.r (ex0 rfl) rfl ?_
    refine RL.r (ex1 rfl) rfl ?_
    refine RL.r (asgL rfl) rfl ?_
    refine RL.r (asgI rfl) rfl ?_
    refine RL.nil ?_
    refine WP.regionS ?_
    refine RL.r (fa_box rfl) rfl ?_
    refine RL.m (ld_box rfl hb2 rfl) rfl ?_
    refine RL.r (fa_box rfl) rfl ?_
    refine RL.m (ld_box rfl hb2 rfl) rfl ?_
    -- call stagecoach/stagecoachref10.Range (tmp 40) (tmp 42)
    refine RL.call (rRange _ _ _ c1 d1 L1 M1 (hA.ol.sl.ext HA) (hA.om.sl.ext HA) hA.sz (hA.ext HA).ts) rfl rfl ?_
    rintro _ w8 ⟨⟨qb, cb, gb, rfl, hGb, hrb⟩, hx⟩
    replace H := H.ext hx; replace hb2 := hb2.ext hx; replace hb3 := hb3.ext hx; replace HA := HA.ext hx; replace hGa := hGa.ext hx
    refine RL.r (mvU rfl) rfl ?_
    refine RL.r (ex0 rfl) rfl ?_
    refine RL.r (ex1 rfl) rfl ?_
    refine RL.r (asgL rfl) rfl ?_
    refine RL.r (asgI rfl) rfl ?_
    refine RL.nil ?_
    refine WP.regionS ?_
    refine RL.r (fa_box rfl) rfl ?_
    refine RL.m (ld_box rfl hb2 rfl) rfl ?_
    refine RL.r (fa_box rfl) rfl ?_
    refine RL.m (ld_box rfl hb2 rfl) rfl ?_
    -- call stagecoach/assign.Robin (tmp 48) (tmp 50)
    refine RL.call (pRobin _ _ _ c1 d1 L1 M1 (hA.ol.sl.ext HA) (hA.om.sl.ext HA) (hA.ext HA).ts) rfl rfl ?_
    rintro _ w9 ⟨⟨qc, cc, gc, rfl, hGc, hrc⟩, hx⟩
    replace H := H.ext hx; replace hb2 := hb2.ext hx; replace hb3 := hb3.ext hx; replace HA := HA.ext hx; replace hGa := hGa.ext hx; replace hGb := hGb.ext hx
    refine RL.r (mvU rfl) rfl ?_
    refine RL.r (ex0 rfl) rfl ?_
    refine RL.r (ex1 rfl) rfl ?_
    refine RL.r (asgL rfl) rfl ?_
    refine RL.r (asgI rfl) rfl ?_
    refine RL.nil ?_
    refine WP.regionS ?_
    refine RL.r (fa_box rfl) rfl ?_
    refine RL.m (ld_box rfl hb2 rfl) rfl ?_
    refine RL.r (fa_box rfl) rfl ?_
    refine RL.m (ld_box rfl hb2 rfl) rfl ?_
    -- call stagecoach/stagecoachref10.Robin (tmp 56) (tmp 58)
    refine RL.call (rRobin _ _ _ c1 d1 L1 M1 (hA.ol.sl.ext HA) (hA.om.sl.ext HA) hA.sz (hA.ext HA).ts) rfl rfl ?_
    rintro _ w10 ⟨⟨qd, cd, gd, rfl, hGd, hrd⟩, hx⟩
    replace H := H.ext hx; replace hb2 := hb2.ext hx; replace hb3 := hb3.ext hx; replace HA := HA.ext hx; replace hGa := hGa.ext hx; replace hGb := hGb.ext hx; replace hGc := hGc.ext hx
    refine RL.r (mvU rfl) rfl ?_
    refine RL.r (ex0 rfl) rfl ?_
    refine RL.r (ex1 rfl) rfl ?_
    refine RL.r (asgL rfl) rfl ?_
    refine RL.r (asgI rfl) rfl ?_
    refine RL.nil ?_
    refine WP.seq ?_
    refine WP.seq (WP.quiet ?_)
    refine QL.r (mvI rfl) rfl ?_
    refine QL.r (mvI rfl) rfl ?_
    refine QL.r (neq rfl rfl) rfl ?_
    refine QL.r (mvB rfl) rfl ?_
    refine QL.gg (gwF rfl rfl) (fun hg => (mvI rfl).does _) rfl ?_
    refine QL.gg (gwF rfl rfl) (fun hg => (mvI rfl).does _) rfl ?_
    refine QL.gg (gwF rfl rfl) (fun hg => (neq (gs hg rfl) (gs hg rfl)).does _) rfl ?_
    refine QL.r (pickOr rfl (fun hn => gs hn rfl)) rfl ?_
    refine QL.r (mvB rfl) rfl ?_
    refine QL.gg (gwF rfl rfl) (fun hg => (mvI rfl).does _) rfl ?_
    refine QL.gg (gwF rfl rfl) (fun hg => (fa_box rfl).does _) rfl ?_
    refine QL.gg (gwF rfl rfl) (fun hg => ld_box (gs hg rfl) hb2 rfl) rfl ?_
    refine QL.gg (gwF rfl rfl) (fun hg => (fa_box rfl).does _) rfl ?_
    refine QL.gg (gwF rfl rfl) (fun hg => ld_box (gs hg rfl) hb2 rfl) rfl ?_
    -- call stagecoach/stagecoachref10.Check (tmp 73) (tmp 75)
    have hlga : ga.length ≤ 10 := by have := rangeI_len L1 M1; rw [← hra] at this; simp only [List.length_map] at this; omega
    have hlgc : gc.length ≤ 10 := by have := robinI_len L1 M1; rw [← hrc] at this; simp only [List.length_map] at this; omega
    have hlea := rows_le hra (rangeI_le L1 M1)
    have hlec := rows_le hrc (robinI_le L1 M1)
    have hlgb : gb.length ≤ 10 := by rw [show gb.length = ga.length by have := congrArg List.length (hrb.trans hra.symm); simpa using this]; exact hlga
    have hlgd : gd.length ≤ 10 := by rw [show gd.length = gc.length by have := congrArg List.length (hrd.trans hrc.symm); simpa using this]; exact hlgc
    have hleb := rows_le hrb (rangeI_le L1 M1)
    have hled := rows_le hrd (robinI_le L1 M1)
    have hK1 : ∀ w', Ext w10 w' → Ct Try.prog 14 #[.slice a1 L1.length c1, .slice b1 M1.length d1] w' fun u w'' => u = .int .i64 (checkE L1 M1) ∧ Ext w' w'' := fun w' hw' => rCheck w' _ _ c1 d1 L1 M1 (hA.ol.sl.ext (HA.ext hw')) (hA.om.sl.ext (HA.ext hw')) hA.sz
    have hK2 : ∀ w', Ext w10 w' → Ct Try.prog 15 #[.slice a1 L1.length c1, .slice b1 M1.length d1] w' fun u w'' => u = .int .i64 (checkE L1 M1) ∧ Ext w' w'' := fun w' hw' => pCheck w' _ _ c1 d1 L1 M1 (hA.ol.sl.ext (HA.ext hw')) (hA.om.sl.ext (HA.ext hw'))
    have hK3 : ∀ w', Ext w10 w' → Ct Try.prog 16 #[.slice qa ga.length ca, .slice qb gb.length cb] w' fun u w'' => u = .bool (decide (rows ga = rows gb)) ∧ Ext w' w'' := fun w' hw' => rSame w' _ _ ca cb ga gb (hGa.gr.ext hw') (hGb.ext hw') (by omega) hlea
    have hK4 : ∀ w', Ext w10 w' → Ct Try.prog 16 #[.slice qc gc.length cc, .slice qd gd.length cd] w' fun u w'' => u = .bool (decide (rows gc = rows gd)) ∧ Ext w' w'' := fun w' hw' => rSame w' _ _ cc cd gc gd (hGc.gr.ext hw') (hGd.ext hw') (by omega) hlec
    refine QL.gcall (gwF rfl rfl) (fun hg w' hw' => hK1 w' hw') (fun hg => EvL.cons (gs hg rfl) (EvL.cons (gs hg rfl) (EvL.nil))) rfl ?_
    refine QL.gg (gwF rfl rfl) (fun hg => (neq (gs hg rfl) (gs hg rfl)).does _) rfl ?_
    refine QL.r (pickOr rfl (fun hn => gs hn rfl)) rfl ?_
    refine QL.r (mvB rfl) rfl ?_
    refine QL.gg (gwF rfl rfl) (fun hg => (fa_box rfl).does _) rfl ?_
    refine QL.gg (gwF rfl rfl) (fun hg => ld_box (gs hg rfl) hb2 rfl) rfl ?_
    refine QL.gg (gwF rfl rfl) (fun hg => (fa_box rfl).does _) rfl ?_
    refine QL.gg (gwF rfl rfl) (fun hg => ld_box (gs hg rfl) hb2 rfl) rfl ?_
    -- call stagecoach/assign.Check (tmp 81) (tmp 83)
    refine QL.gcall (gwF rfl rfl) (fun hg w' hw' => hK2 w' hw') (fun hg => EvL.cons (gs hg rfl) (EvL.cons (gs hg rfl) (EvL.nil))) rfl ?_
    refine QL.gg (gwF rfl rfl) (fun hg => (mvI rfl).does _) rfl ?_
    refine QL.gg (gwF rfl rfl) (fun hg => (neq (gs hg rfl) (gs hg rfl)).does _) rfl ?_
    refine QL.r (pickOr rfl (fun hn => gs hn rfl)) rfl ?_
    refine QL.r (mvB rfl) rfl ?_
    refine QL.gg (gwF rfl rfl) (fun hg => (mvL rfl).does _) rfl ?_
    refine QL.gg (gwF rfl rfl) (fun hg => (mvL rfl).does _) rfl ?_
    -- call stagecoach/stagecoachref10.Same (tmp 89) (tmp 90)
    refine QL.gcall (gwF rfl rfl) (fun hg w' hw' => hK3 w' hw') (fun hg => EvL.cons (gs hg rfl) (EvL.cons (gs hg rfl) (EvL.nil))) rfl ?_
    first | refine QL.gg (gwF rfl rfl) (fun hg => (notD (gs hg rfl)).does _) rfl ?_ | refine QL.gg (gwF rfl rfl) (fun hg => (not_ (gs hg rfl)).does _) rfl ?_
    refine QL.r (pickOr rfl (fun hn => gs hn rfl)) rfl ?_
    refine QL.r (mvB rfl) rfl ?_
    refine QL.gg (gwF rfl rfl) (fun hg => (mvL rfl).does _) rfl ?_
    refine QL.gg (gwF rfl rfl) (fun hg => (mvL rfl).does _) rfl ?_
    -- call stagecoach/stagecoachref10.Same (tmp 95) (tmp 96)
    refine QL.gcall (gwF rfl rfl) (fun hg w' hw' => hK4 w' hw') (fun hg => EvL.cons (gs hg rfl) (EvL.cons (gs hg rfl) (EvL.nil))) rfl ?_
    first | refine QL.gg (gwF rfl rfl) (fun hg => (notD (gs hg rfl)).does _) rfl ?_ | refine QL.gg (gwF rfl rfl) (fun hg => (not_ (gs hg rfl)).does _) rfl ?_
    refine QL.r (pickOr rfl (fun hn => gs hn rfl)) rfl ?_
    refine QL.nil ?_; intro w15 hx; replace H := H.ext hx; replace hb2 := hb2.ext hx; replace hb3 := hb3.ext hx; replace HA := HA.ext hx; replace hGa := hGa.ext hx; replace hGb := hGb.ext hx; replace hGc := hGc.ext hx; replace hGd := hGd.ext hx
    refine WP.cond rfl (fun hc => ?_) (fun hc => ?_)
    · refine WP.regionS ?_
      refine RL.r (asgB rfl) rfl ?_
      refine RL.nil ?_
      refine WP.ret ?_
      refine fin1_ret rfl ⟨absurd hc (by rw [hra, hrb, hrc, hrd]; simp), H⟩
    · refine WP.skip ?_
      refine WP.seq ?_
      refine WP.seq ?_
      refine WP.draw (by kernel_rfl) ?_
      refine QL.r (mvL rfl) rfl ?_
      refine QL.m (ldS_box rfl hb3 (Nat.le_of_ble_eq_true rfl) rfl) rfl ?_
      -- call stagecoach/assign.Whose (tmp 100) (tmp 101)
      have hK5 : ∀ w', Ext w15 w' → Ct Try.prog 17 #[.slice qa ga.length ca, .agg (Lies.enc (⟨p.topic.extract 0 (min p.topic.size 40), p.n⟩ : Part)).toArray] w' fun u w'' => u = .int .i64 (whose (rows ga) (⟨p.topic.extract 0 (min p.topic.size 40), p.n⟩ : Part)) ∧ Ext w' w'' := fun w' hw' => pWhose w' _ ca ga (⟨p.topic.extract 0 (min p.topic.size 40), p.n⟩ : Part) (hGa.gr.ext hw') (by omega) hlea
      have hK6 : ∀ w', Ext w15 w' → Ct Try.prog 18 #[.slice qb gb.length cb, .agg (Lies.enc (⟨p.topic.extract 0 (min p.topic.size 40), p.n⟩ : Part)).toArray] w' fun u w'' => u = .int .i64 (whose (rows gb) (⟨p.topic.extract 0 (min p.topic.size 40), p.n⟩ : Part)) ∧ Ext w' w'' := fun w' hw' => rWhose w' _ cb gb (⟨p.topic.extract 0 (min p.topic.size 40), p.n⟩ : Part) (hGb.ext hw') (by omega) hleb
      have hK7 : ∀ w', Ext w15 w' → Ct Try.prog 17 #[.slice qc gc.length cc, .agg (Lies.enc (⟨p.topic.extract 0 (min p.topic.size 40), p.n⟩ : Part)).toArray] w' fun u w'' => u = .int .i64 (whose (rows gc) (⟨p.topic.extract 0 (min p.topic.size 40), p.n⟩ : Part)) ∧ Ext w' w'' := fun w' hw' => pWhose w' _ cc gc (⟨p.topic.extract 0 (min p.topic.size 40), p.n⟩ : Part) (hGc.gr.ext hw') (by omega) hlec
      have hK8 : ∀ w', Ext w15 w' → Ct Try.prog 18 #[.slice qd gd.length cd, .agg (Lies.enc (⟨p.topic.extract 0 (min p.topic.size 40), p.n⟩ : Part)).toArray] w' fun u w'' => u = .int .i64 (whose (rows gd) (⟨p.topic.extract 0 (min p.topic.size 40), p.n⟩ : Part)) ∧ Ext w' w'' := fun w' hw' => rWhose w' _ cd gd (⟨p.topic.extract 0 (min p.topic.size 40), p.n⟩ : Part) (hGd.ext hw') (by omega) hled
      refine QL.call (fun w' hw' => hK5 w' hw') rfl rfl ?_
      refine QL.r (mvL rfl) rfl ?_
      refine QL.m (ldS_box rfl hb3 (Nat.le_of_ble_eq_true rfl) rfl) rfl ?_
      -- call stagecoach/stagecoachref10.Whose (tmp 103) (tmp 104)
      refine QL.call (fun w' hw' => hK6 w' hw') rfl rfl ?_
      refine QL.r (neq rfl rfl) rfl ?_
      refine QL.r (mvB rfl) rfl ?_
      refine QL.gg (gwF rfl rfl) (fun hg => (mvL rfl).does _) rfl ?_
      refine QL.gg (gwF rfl rfl) (fun hg => ldS_box rfl hb3 (Nat.le_of_ble_eq_true rfl) rfl) rfl ?_
      -- call stagecoach/assign.Whose (tmp 108) (tmp 109)
      refine QL.gcall (gwF rfl rfl) (fun hg w' hw' => hK7 w' hw') (fun hg => EvL.cons (gs hg rfl) (EvL.cons (gs hg rfl) (EvL.nil))) rfl ?_
      refine QL.gg (gwF rfl rfl) (fun hg => (mvL rfl).does _) rfl ?_
      refine QL.gg (gwF rfl rfl) (fun hg => ldS_box rfl hb3 (Nat.le_of_ble_eq_true rfl) rfl) rfl ?_
      -- call stagecoach/stagecoachref10.Whose (tmp 111) (tmp 112)
      refine QL.gcall (gwF rfl rfl) (fun hg w' hw' => hK8 w' hw') (fun hg => EvL.cons (gs hg rfl) (EvL.cons (gs hg rfl) (EvL.nil))) rfl ?_
      refine QL.gg (gwF rfl rfl) (fun hg => (neq (gs hg rfl) (gs hg rfl)).does _) rfl ?_
      refine QL.r (pickOr rfl (fun hn => gs hn rfl)) rfl ?_
      refine QL.nil ?_; intro w20 hx; replace H := H.ext hx; replace hb2 := hb2.ext hx; replace hb3 := hb3.ext hx; replace HA := HA.ext hx; replace hGa := hGa.ext hx; replace hGb := hGb.ext hx; replace hGc := hGc.ext hx; replace hGd := hGd.ext hx
      refine WP.cond rfl (fun hc => ?_) (fun hc => ?_)
      · refine WP.regionS ?_
        refine RL.r (asgB rfl) rfl ?_
        refine RL.nil ?_
        refine WP.ret ?_
        refine fin1_ret rfl ⟨absurd hc (by rw [hra, hrb, hrc, hrd]; simp), H⟩
      · refine WP.skip ?_
        refine WP.regionS ?_
        refine RL.r (asgI rfl) rfl ?_
        refine RL.nil ?_
        refine WP.block ?_
        refine WP.loop (fun k1 e' w' => ∃ j1 : Nat, ∃ (g : List (Rw Part)),  j1 + k1 = ga.length ∧ Head [14, 15, 116, 117, 118, 119, 120, 121, 122, 123, 124, 125, 126, 127, 128, 129, 130, 131, 132, 133, 134, 135, 136, 137] _ [(14, .int .i64 (j1 : Int))] e' ∧ Ext w0 w' ∧ Box w0.heap.size w' i2 25 [.slice a1 L1.length c1, .slice b1 M1.length d1] ∧ Box w0.heap.size w' i3 27 (Lies.enc (⟨p.topic.extract 0 (min p.topic.size 40), p.n⟩ : Part)) ∧ Ext w6 w' ∧ GridO 36 27 w6.heap.size w' qa ca g ∧ g.map (fun r => r.l.length) = ga.map (fun r => r.l.length)) (ga.length)
          ⟨0, ga, by omega, Head.intro (AgreeOff.refl _ _) ⟨rfl, trivial⟩, H, hb2, hb3, HA, hGa, rfl⟩ ?_
        clear H hb2 hb3 HA hGa hGb hGc hGd
        rintro k1 e w21 ⟨j1, g2, hjk1, ⟨jk1, rfl⟩, H, hb2, hb3, HA, hG, hsh⟩
        refine WP.seq ?_
        refine WP.regionS ?_
        refine RL.r (mvI rfl) rfl ?_
        refine RL.r (mvL rfl) rfl ?_
        refine RL.r (len_sl rfl) rfl ?_
        refine RL.r (lss rfl rfl) rfl ?_
        refine RL.nil ?_
        refine WP.cond rfl (fun hc => ?_) (fun hc => ?_)
        · refine WP.skip ?_
          refine WP.seq ?_
          refine WP.block ?_
          refine WP.regionS ?_
          refine RL.r (asgI rfl) rfl ?_
          refine RL.nil ?_
          refine WP.block ?_
          have hj1 : j1 < ga.length := by omega
          have hle1 := hlea _ (List.getElem_mem hj1)
          refine WP.loop (fun k2 e' w' => ∃ j2 : Nat, ∃ (g : List (Rw Part)),  j2 + k2 = ga[j1].l.length ∧ Head [15, 122, 123, 124, 125, 126, 127, 128, 129, 130, 131, 132, 133, 134, 135, 136, 137] _ [(15, .int .i64 (j2 : Int))] e' ∧ Ext w0 w' ∧ Box w0.heap.size w' i2 25 [.slice a1 L1.length c1, .slice b1 M1.length d1] ∧ Box w0.heap.size w' i3 27 (Lies.enc (⟨p.topic.extract 0 (min p.topic.size 40), p.n⟩ : Part)) ∧ Ext w6 w' ∧ GridO 36 27 w6.heap.size w' qa ca g ∧ g.map (fun r => r.l.length) = ga.map (fun r => r.l.length)) (ga[j1].l.length)
            ⟨0, g2, by omega, Head.intro (AgreeOff.refl _ _) ⟨rfl, trivial⟩, H, hb2, hb3, HA, hG, hsh⟩ ?_
          clear H hb2 hb3 HA
          rintro k2 e w22 ⟨j2, g3, hjk2, ⟨jk2, rfl⟩, H, hb2, hb3, HA, hG3, hsh3⟩
          have hg3l : g3.length = ga.length := by have := congrArg List.length hsh3; simpa using this
          have hj3 : j1 < g3.length := by omega
          have hrw : g3[j1].l.length = ga[j1].l.length := by
            have := congrArg (fun l => l[j1]?) hsh3
            simpa [hj3, hj1] using this
          obtain ⟨r7, rfl⟩ := hG3.head.sl.isAddr (by decide) hj3
          refine WP.seq ?_
          refine WP.regionS ?_
          refine RL.r (mvI rfl) rfl ?_
          refine RL.r (mvL rfl) rfl ?_
          refine RL.r (mvI rfl) rfl ?_
          refine RL.r (ix rfl rfl rfl (by omega)) rfl ?_
          refine RL.m (ld_e0 rfl hG3.head.sl (Ext.refl _) rfl hj3 rfl) rfl ?_
          refine RL.r (len_sl rfl) rfl ?_
          refine RL.r (lss rfl rfl) rfl ?_
          refine RL.nil ?_
          refine WP.cond rfl (fun hc => ?_) (fun hc => ?_)
          · refine WP.skip ?_
            refine WP.seq ?_
            refine WP.block ?_
            refine WP.region ?_
            refine RL.r (mvL rfl) rfl ?_
            refine RL.r (mvI rfl) rfl ?_
            refine RL.r (ix rfl rfl rfl (by omega)) rfl ?_
            have hj2 : j2 < g3[j1].l.length := by omega
            have hrow := hG3.row j1 hj3
            obtain ⟨q, hq⟩ := hrow.sl.isAddr (by decide) hj2
            have hqs := hrow.sl
            rw [hq] at hqs
            refine RL.m (ld_e0 rfl hG3.head.sl (Ext.refl _) rfl hj3 (hdr hq)) rfl ?_
            refine RL.r (mvI rfl) rfl ?_
            refine RL.r (ix rfl rfl rfl hj2) rfl ?_
            refine RL.r (fa_el hqs.1 rfl) rfl ?_
            refine RL.setOwn (a := g3[j1].a) (u := (⟨g3[j1].l[j2].topic, 99⟩ : Part)) (i := j2) (off := 1) (v := .int .i64 99) (vs := [.int .i64 99]) (by rw [hq]; rfl) hrow hj2 rfl rfl rfl (Nat.le_of_ble_eq_true rfl) rfl (fun v hv => by obtain rfl := List.mem_singleton.1 hv; rfl) ?_
            intro w99 hu2 hh2
            replace hG3 := GridO.setRow hG3 (by decide) hj3 hu2 hh2 (by simp)
            replace HA := Ext.own HA hrow hu2
            replace H := H06.trans HA
            replace hb2 := hb26.ext HA
            replace hb3 := hb36.ext HA
            refine RL.nil ?_
            refine WP.region ?_
            refine RL.r (mvI rfl) rfl ?_
            refine RL.r (add rfl rfl (by omega)) rfl ?_
            refine RL.r (asgI rfl) rfl ?_
            refine RL.nil ?_
            refine ⟨k2 - 1, by omega, j2 + 1, _, by omega, Head.intro (by repeat (first | with_reducible exact AgreeOff.mix _ _ _ | refine AgreeOff.look rfl ?_ | refine AgreeOff.mixs rfl ?_)) ⟨rfl, trivial⟩, H, hb2, hb3, HA, hG3, ?_⟩
            rw [← hsh3]
            apply List.ext_getElem (by simp)
            intro n h1 h2
            simp only [List.getElem_map, List.getElem_set]
            split
            · rename_i h5; subst h5; simp
            · rfl
          · refine WP.exit ?_
            refine WP.region ?_
            refine RL.r (mvI rfl) rfl ?_
            refine RL.r (add rfl rfl (by omega)) rfl ?_
            refine RL.r (asgI rfl) rfl ?_
            refine RL.nil ?_
            refine ⟨k1 - 1, by omega, j1 + 1, _, by omega, Head.intro (by repeat (first | with_reducible exact AgreeOff.mix _ _ _ | refine AgreeOff.look rfl ?_ | refine AgreeOff.mixs rfl ?_)) ⟨rfl, trivial⟩, H, hb2, hb3, HA, hG3, hsh3⟩
        · refine WP.exit ?_
          refine WP.region ?_
          refine RL.r (mvI rfl) rfl ?_
          refine RL.r (add rfl rfl (by omega)) rfl ?_
          refine RL.r (asgI rfl) rfl ?_
          refine RL.nil ?_
          refine ⟨k - 1, by omega, j + 1, by omega, Head.intro (by repeat (first | with_reducible exact AgreeOff.mix _ _ _ | refine AgreeOff.look rfl ?_ | refine AgreeOff.mixs rfl ?_)) ⟨rfl, trivial⟩, H, hb2, hb3, hA.ext HA⟩
  · refine WP.exit ?_
    refine WP.seq ?_
    refine WP.draw (by kernel_rfl) ?_
    refine QL.r (fa_box rfl) rfl ?_
    refine QL.m (ld_box rfl hb2 rfl) rfl ?_
    refine QL.r (len_sl rfl) rfl ?_
    refine QL.r (eql rfl rfl) rfl ?_
    refine QL.r (mvB rfl) rfl ?_
    refine QL.gg (gwF rfl rfl) (fun hg => (fa_box rfl).does _) rfl ?_
    refine QL.gg (gwF rfl rfl) (fun hg => ld_box (gs hg rfl) hb2 rfl) rfl ?_
    obtain ⟨p1, y, hy⟩ := first_mem b1 d1 M1 hA.om.sl
    have hK9 : (hn : ¬ ((M1.length : Nat) : Int) = 0) → ∀ w', Ext w6 w' → Ct Try.prog 19 #[.agg (Lies.enc y).toArray, .string (⟨p.topic.extract 0 (min p.topic.size 40), p.n⟩ : Part).topic] w' fun u w'' => u = .bool (decide (y.has (⟨p.topic.extract 0 (min p.topic.size 40), p.n⟩ : Part).topic)) ∧ Ext w' w'' := fun hn w' hw' => pWants w' y (⟨p.topic.extract 0 (min p.topic.size 40), p.n⟩ : Part).topic ((hA.ts y (List.mem_of_getElem? (hy hn).2.2.2)).1.ext hw') (hA.ts y (List.mem_of_getElem? (hy hn).2.2.2)).2
    have hK10 : (hn : ¬ ((M1.length : Nat) : Int) = 0) → ∀ w', Ext w6 w' → Ct Try.prog 20 #[.agg (Lies.enc y).toArray, .string (⟨p.topic.extract 0 (min p.topic.size 40), p.n⟩ : Part).topic] w' fun u w'' => u = .bool (decide (y.has (⟨p.topic.extract 0 (min p.topic.size 40), p.n⟩ : Part).topic)) ∧ Ext w' w'' := fun hn w' hw' => rWants w' y (⟨p.topic.extract 0 (min p.topic.size 40), p.n⟩ : Part).topic ((hA.ts y (List.mem_of_getElem? (hy hn).2.2.2)).1.ext hw') (hA.ts y (List.mem_of_getElem? (hy hn).2.2.2)).2
    refine QL.gg (gwF rfl rfl) (fun hg => (ix ((gs hg rfl).trans (hy hg).1) rfl rfl (hy hg).2.2.1).does _) rfl ?_
    refine QL.gg (gwF rfl rfl) (fun hg => ldS_at (gs hg rfl) (hy hg).2.1 (Ext.refl _) rfl rfl (hy hg).2.2.2) rfl ?_
    refine QL.gg (gwF rfl rfl) (fun hg => (fa_box rfl).does _) rfl ?_
    refine QL.gg (gwF rfl rfl) (fun hg => ld_box (gs hg rfl) hb3 rfl) rfl ?_
    -- call stagecoach/assign.Wants (tmp 146) (tmp 148)
    refine QL.gcall (gwF rfl rfl) (fun hg w' hw' => hK9 hg w' hw') (fun hg => EvL.cons (gs hg rfl) (EvL.cons (gs hg rfl) (EvL.nil))) rfl ?_
    refine QL.gg (gwF rfl rfl) (fun hg => (fa_box rfl).does _) rfl ?_
    refine QL.gg (gwF rfl rfl) (fun hg => ld_box (gs hg rfl) hb2 rfl) rfl ?_
    refine QL.gg (gwF rfl rfl) (fun hg => (ix ((gs hg rfl).trans (hy hg).1) rfl rfl (hy hg).2.2.1).does _) rfl ?_
    refine QL.gg (gwF rfl rfl) (fun hg => ldS_at (gs hg rfl) (hy hg).2.1 (Ext.refl _) rfl rfl (hy hg).2.2.2) rfl ?_
    refine QL.gg (gwF rfl rfl) (fun hg => (fa_box rfl).does _) rfl ?_
    refine QL.gg (gwF rfl rfl) (fun hg => ld_box (gs hg rfl) hb3 rfl) rfl ?_
    -- call stagecoach/stagecoachref10.Wants (tmp 153) (tmp 155)
    refine QL.gcall (gwF rfl rfl) (fun hg w' hw' => hK10 hg w' hw') (fun hg => EvL.cons (gs hg rfl) (EvL.cons (gs hg rfl) (EvL.nil))) rfl ?_
    refine QL.gg (gwF rfl rfl) (fun hg => (beql (gs hg rfl) (gs hg rfl)).does _) rfl ?_
    refine QL.r (pickOr rfl (fun hn => gs hn rfl)) rfl ?_
    refine QL.r (mvB rfl) rfl ?_
    -- call stagecoach/stagecoachlaw10.fixed 
    refine QL.gcall (gwT rfl rfl) (fun hg w' hw' => lFixed' w') (fun hg => EvL.nil) rfl ?_
    refine QL.r (pickAnd rfl (fun hn => gs hn rfl)) rfl ?_
    refine QL.r (asgB rfl) rfl ?_
    refine QL.nil ?_; intro w27 hx; replace H := H.ext hx; replace hb2 := hb2.ext hx; replace hb3 := hb3.ext hx; replace HA := HA.ext hx
    refine WP.ret ?_
    refine fin1_ret rfl ⟨congrArg Value.bool (bT ⟨Or.inr rfl, trivial⟩).symm, H⟩
end Go.Proofs.Ytoebejfffakjpaa
