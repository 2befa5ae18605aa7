/-
  What the statements of chapter 8 ask at fixed batches.
-/
import Derived.Test.YtbggmjnhfacjpaaPlain08
set_option linter.unusedVariables false
namespace Go.Proofs.Ytbggmjnhfacjpaa
open Go Go.Eng Go.RowKit
theorem pAskN (w0 : World) (B i : Nat) (Z : Nat → Prop) (D : Ds) (hT : Tg B w0 i Z D) (K : Int) (M : Nat) (hok : okD K M D) (hK : 0 ≤ K ∧ K ≤ 4611686018427387904) (p : Part) (id epoch seq : Int) (ra : Option Addr) (rc : Nat) (recs : List Rec) {n : Nat} (hn : recs.length = n) {r e : Int} {t : Bool} (hx : askN D p id epoch seq n = (r, t, e)) :
    Ct Try.prog 20 #[.pointer (some ⟨i, 0, none⟩), .agg (Lies.enc p).toArray, .agg (Lies.enc (⟨id, epoch, seq, ra, rc, recs⟩ : Bat)).toArray] w0 fun v w' => v = .tuple #[.int .i64 r, .bool (decide (t = true)), .int .i64 e] ∧ Ext w0 w' := by
  subst hn
  have h := pAsk w0 B i Z D hT K M hok hK p ⟨id, epoch, seq, ra, rc, recs⟩
  rw [askA_N, hx] at h
  exact h
theorem pDoneN (w0 : World) (B i : Nat) (Z : Nat → Prop) (D : Ds) (hT : Tg B w0 i Z D) (K : Int) (M : Nat) (hok : okD K M D) (hK : 0 ≤ K ∧ K ≤ 4611686018427387904) (p : Part) (id epoch seq : Int) (ra : Option Addr) (rc : Nat) (recs : List Rec) (off : Int) {n : Nat} (hn : recs.length = n) {e : Int} {D' : Ds} (he : doneEN D p id epoch seq n off = e) (hd : doneDN D p id epoch seq n off = D') :
    Ct Try.prog 13 #[.pointer (some ⟨i, 0, none⟩), .agg (Lies.enc p).toArray, .agg (Lies.enc (⟨id, epoch, seq, ra, rc, recs⟩ : Bat)).toArray, .int .i64 off] w0 fun v w' => (v = .int .i64 e ∧ ∃ Z', Tg B w' i Z' D' ∧ Grew Z Z' w0.heap.size) ∧ Upd Z w0 w' := by
  subst hn
  subst he
  subst hd
  exact pDone w0 B i Z D hT K M hok hK p ⟨id, epoch, seq, ra, rc, recs⟩ off
theorem pOpenN (w0 : World) (B i : Nat) (Z : Nat → Prop) (D : Ds) (hT : Tg B w0 i Z D) (K : Int) (M : Nat) (hok : okD K M D) (id : Int) {r s e : Int} {D' : Ds} (hx : openA D id = (r, s, e)) (hd : openD D id = D') :
    Ct Try.prog 15 #[.pointer (some ⟨i, 0, none⟩), .int .i64 id] w0 fun v w' => (v = .tuple #[.int .i64 r, .int .i64 s, .int .i64 e] ∧ ∃ Z', Tg B w' i Z' D' ∧ Grew Z Z' w0.heap.size) ∧ Upd Z w0 w' := by
  subst hd
  have h := pOpen w0 B i Z D hT K M hok id
  rw [hx] at h
  exact h
theorem pLoad_ok (w0 : World) (aE : Option Addr) (cE : Nat) (E0 : List Int) (hE0 : Sl w0 aE E0) (hE0l : E0.length ≤ 1000000) (aL : Option Addr) (cL : Nat) (l : List Maker) (hl : Sl w0 aL l) (hll : l.length ≤ 100000) (hrows : ∀ x ∈ l, Sl w0 x.la x.last ∧ x.last.length ≤ x.lc) (h0 : ldE E0 l = 0) :
    Ct Try.prog 9 #[.slice aE E0.length cE, .slice aL l.length cL] w0 fun v w' => (∃ i Z, v = .tuple #[.pointer (some ⟨i, 0, none⟩), .int .i64 0] ∧ Tg w0.heap.size w' i Z ⟨E0, l.map Maker.pl⟩) ∧ Ext w0 w' :=
  (pLoad w0 aE cE E0 hE0 hE0l aL cL l hl hll hrows).mono fun v w' ⟨⟨p, h1, h2, _⟩, hx⟩ => ⟨by obtain ⟨i, Z, rfl, hT⟩ := h2 h0; exact ⟨i, Z, by rw [h1, h0], hT⟩, hx⟩
theorem pLoad_no (w0 : World) (aE : Option Addr) (cE : Nat) (E0 : List Int) (hE0 : Sl w0 aE E0) (hE0l : E0.length ≤ 1000000) (aL : Option Addr) (cL : Nat) (l : List Maker) (hl : Sl w0 aL l) (hll : l.length ≤ 100000) (hrows : ∀ x ∈ l, Sl w0 x.la x.last ∧ x.last.length ≤ x.lc) {k : Int} (h0 : ldE E0 l = k) (hk : k ≠ 0) :
    Ct Try.prog 9 #[.slice aE E0.length cE, .slice aL l.length cL] w0 fun v w' => v = .tuple #[.pointer none, .int .i64 k] ∧ Ext w0 w' :=
  (pLoad w0 aE cE E0 hE0 hE0l aL cL l hl hll hrows).mono fun v w' ⟨⟨p, h1, _, h3⟩, hx⟩ => ⟨by rw [h1, h3 (by rw [h0]; exact hk), h0], hx⟩
abbrev tS : ByteArray := ⟨#[116]⟩
abbrev pT : Part := ⟨tS, 0⟩
abbrev F1 : Ds := ⟨[0], []⟩
abbrev F2 : Ds := ⟨[0], [⟨1, pT, [⟨0, 2, 7⟩]⟩]⟩
abbrev F3 : Ds := ⟨[1], []⟩
theorem o1 : openA d0 0 = (1, 0, 0) := rfl
theorem o1' : openD d0 0 = F1 := rfl
theorem o2 : askN F1 pT 1 0 0 2 = (0, false, 0) := by decide
theorem o3 : doneEN F1 pT 1 0 0 2 7 = 0 := by decide
theorem o3' : doneDN F1 pT 1 0 0 2 7 = F2 := by unfold doneDN; rw [if_pos ⟨o3, by decide⟩]; rfl
theorem o4 : askN F2 pT 1 0 0 2 = (7, true, 0) := by decide
theorem o5 : askN F2 pT 1 0 3 1 = (0, false, 82) := by decide
theorem o6 : askN F2 pT 2 0 0 1 = (0, false, 80) := by decide
theorem o7 : openA F2 1 = (1, 1, 0) := by decide
theorem o7' : openD F2 1 = F3 := by
  unfold openD
  rw [if_neg (by decide), if_neg (by decide), if_neg (by decide), if_neg (by decide)]
  rfl
theorem o8 : askN F3 pT 1 0 2 1 = (0, false, 81) := by decide
theorem o9 : askN F3 pT 1 2 0 1 = (0, false, 80) := by decide
theorem k1 : okD 0 0 F1 := o1' ▸ okD_open okD0 0
theorem k2 : okD 2 1 F2 := by
  have h := okD_done k1 (by decide) pT 1 0 0 2 7
  rw [o3'] at h
  exact h
theorem k3 : okD 2 1 F3 := o7' ▸ okD_open k2 1
theorem okD_ldE {K : Int} {M : Nat} {D : Ds} (h : okD K M D) (hK : K ≤ 1099511627776) {l : List Maker} (hl : l.map Maker.mk' = D.S.map (mkP D.E)) : ldE D.E l = 0 := by
  have hlen : l.length = D.S.length := by have := congrArg List.length hl; simpa using this
  have hat : ∀ (i : Nat) (hi : i < l.length) (hi2 : i < D.S.length), l[i].mk' = mkP D.E D.S[i] := by
    intro i hi hi2
    have h1 : (l.map Maker.mk')[i]? = (D.S.map (mkP D.E))[i]? := by rw [hl]
    rw [List.getElem?_map, List.getElem?_map, List.getElem?_eq_getElem hi, List.getElem?_eq_getElem hi2] at h1
    exact Option.some.inj h1
  refine ldE_0 h.len h.num fun i hi => ?_
  have hi2 : i < D.S.length := by omega
  have h1 := hat i hi hi2
  have e1 : l[i].id = D.S[i].id := congrArg Mk.id h1
  have e2 : l[i].epoch = ep D.E D.S[i].id := congrArg Mk.epoch h1
  have e4 : l[i].last = D.S[i].last := congrArg Mk.last h1
  refine ⟨fun h0 => ?_, by rw [e1]; exact h.id _ (List.getElem_mem hi2), by rw [e2, e1], ?_⟩
  · have h3 := List.pairwise_iff_getElem.1 h.srt (i - 1) i (by omega) hi2 (by omega)
    have h4 := hat (i - 1) (by omega) (by omega)
    have k4 : key l[i - 1] = key D.S[i - 1] := congrArg (fun m : Mk => (⟨m.id, m.part⟩ : DKey)) h4
    have k5 : key l[i] = key D.S[i] := congrArg (fun m : Mk => (⟨m.id, m.part⟩ : DKey)) h1
    show KOrd.lt (key l[i - 1]) (key l[i])
    rw [k4, k5]
    exact h3
  · rw [e4]
    obtain ⟨q1, q2, q3⟩ := h.row _ (List.getElem_mem hi2)
    refine ⟨q1, q2, fun j hj => ?_⟩
    obtain ⟨r1, r2, r3, r4, r5⟩ := q3 j hj
    exact ⟨⟨r1, by omega⟩, r2, ⟨by omega, by omega⟩, r4, r5⟩
theorem rows_of {B : Nat} {w : World} {l : List Maker} (h : OwnsD B w l) : ∀ x ∈ l, Sl w x.la x.last ∧ x.last.length ≤ x.lc := fun x hx => ⟨(h.own x hx).sl, Own.len_le (h.own x hx)⟩
theorem ldE_neg : ldE [-1] [] = 1 := by
  unfold ldE
  rw [if_neg (by decide), if_pos]
  intro h
  exact absurd (h (-1) (by simp)) (by decide)
set_option maxRecDepth 20000 in
set_option maxHeartbeats 1600000 in
theorem lFixed (w0 : World) :
    Ct Try.prog 11 #[] w0 fun v w' => v = .bool true ∧ Ext w0 w' := by
  refine Ct.intro1 Try.func11 Try.ntmps11 rfl rfl (by decide) rfl ?_
  have H : Ext w0 w0 := Ext.refl w0
  refine WP.regionS ?_
  refine RL.r (asgB rfl) rfl ?_
  refine RL.nil ?_
  refine WP.regionS ?_
  -- call stagecoach/dedup.New 
  refine RL.call (pNew _) rfl rfl ?_
  rintro v w1 ⟨⟨i, m, rfl, hbt, hmm⟩, hx⟩
  replace H := H.ext hx
  have hT := tg_new hbt hmm
  refine RL.r (bld rfl rfl) rfl ?_
  refine RL.alloc w0.heap.size H.size rfl rfl ?_
  intro w2 i2 hi2 hx hb2
  refine RL.r (asgP rfl) rfl ?_
  refine RL.storeS rfl hb2 rfl rfl rfl rfl ?_
  intro w3 hu hb2
  replace hx := hx.box hu (Nat.le_of_eq hi2.symm)
  replace H := H.ext hx; replace hT := hT.ext hx; clear hx hu
  refine RL.nil ?_
  refine WP.seq ?_
  refine WP.regionS ?_
  refine RL.r (mvP rfl) rfl ?_
  refine RL.r (peqn rfl rfl) rfl ?_
  refine RL.nil ?_
  refine WP.cond rfl (fun hc => ?_) (fun hc => ?_)
  · refine WP.regionS ?_
    refine RL.r (asgB rfl) rfl ?_
    refine RL.nil ?_
    refine WP.ret ?_
    refine fin1_ret rfl ⟨absurd hc (by simp), H⟩
  · refine WP.skip ?_
    refine WP.regionS ?_
    refine RL.r (mvP rfl) rfl ?_
    -- call (*stagecoach/dedup.Table).Open (tmp 38) (const (int i64 0))
    refine RL.call (pOpenN _ _ i _ d0 hT 0 0 okD0 0 o1 o1') rfl rfl ?_
    rintro _ w4 ⟨⟨rfl, Z2, hT2, _⟩, hx⟩
    replace H := ext_z H hT (Nat.le_refl _) hx; replace hb2 := box_z hb2 hT (by decide) (by decide) (by decide) hx
    replace hT := hT2; clear hT2
    refine RL.r (mvU rfl) rfl ?_
    refine RL.r (ex0 rfl) rfl ?_
    refine RL.r (ex1 rfl) rfl ?_
    refine RL.r (ex2 rfl) rfl ?_
    refine RL.r (asgI rfl) rfl ?_
    refine RL.r (asgI rfl) rfl ?_
    refine RL.r (asgI rfl) rfl ?_
    refine RL.nil ?_
    refine WP.seq ?_
    refine WP.any ?_
    intro w5 hx; replace H := H.ext hx; replace hb2 := hb2.ext hx; replace hT := hT.ext hx
    refine AL.p 0 (by kernel_rfl) rfl (mvP rfl) rfl ?_
    -- call stagecoach/stagecoachlaw08.of (const (int i64 1)) (const (int i64 0)) (const (int i64 0)) (const (int i64 2))
    refine AL.x 2 (by kernel_rfl) rfl rfl (fun w' hw' => pOf _ 1 0 0 2 (by decide)) ?_
    refine AX.m 1 (by kernel_rfl) rfl rfl (ldS_box rfl hb2 (Nat.le_of_ble_eq_true rfl) rfl) rfl ?_
    refine AX.o (by kernel_rfl) rfl ?_
    rintro v w6 ⟨⟨ra, rc, recs, rfl, hrl⟩, hx⟩
    replace H := H.ext hx; replace hb2 := hb2.ext hx; replace hT := hT.ext hx
    refine AL.o 3 (by kernel_rfl) rfl ?_
    -- call (*stagecoach/dedup.Table).Ask (tmp 44) (tmp 45) (tmp 46)
    refine RL.call (pAskN _ _ i _ F1 hT _ _ k1 (by decide) pT 1 0 0 ra rc recs hrl o2) rfl rfl ?_
    rintro _ w7 ⟨rfl, hx⟩
    replace H := H.ext hx; replace hb2 := hb2.ext hx; replace hT := hT.ext hx
    refine RL.nil ?_
    refine AL.p 4 (by kernel_rfl) rfl (mvU rfl) rfl ?_
    refine AL.p 5 (by kernel_rfl) rfl (ex0 rfl) rfl ?_
    refine AL.p 6 (by kernel_rfl) rfl (ex1 rfl) rfl ?_
    refine AL.p 7 (by kernel_rfl) rfl (ex2 rfl) rfl ?_
    refine AL.p 8 (by kernel_rfl) rfl (asgI rfl) rfl ?_
    refine AL.p 9 (by kernel_rfl) rfl (asgB rfl) rfl ?_
    refine AL.p 10 (by kernel_rfl) rfl (asgI rfl) rfl ?_
    refine AL.nil (by kernel_rfl) ?_
    refine WP.seq ?_
    refine WP.any ?_
    intro w8 hx; replace H := H.ext hx; replace hb2 := hb2.ext hx; replace hT := hT.ext hx
    refine AL.p 0 (by kernel_rfl) rfl (mvP rfl) rfl ?_
    -- call stagecoach/stagecoachlaw08.of (const (int i64 1)) (const (int i64 0)) (const (int i64 0)) (const (int i64 2))
    refine AL.x 2 (by kernel_rfl) rfl rfl (fun w' hw' => pOf _ 1 0 0 2 (by decide)) ?_
    refine AX.m 1 (by kernel_rfl) rfl rfl (ldS_box rfl hb2 (Nat.le_of_ble_eq_true rfl) rfl) rfl ?_
    refine AX.o (by kernel_rfl) rfl ?_
    rintro v w9 ⟨⟨ra, rc, recs, rfl, hrl⟩, hx⟩
    replace H := H.ext hx; replace hb2 := hb2.ext hx; replace hT := hT.ext hx
    refine AL.o 3 (by kernel_rfl) rfl ?_
    -- call (*stagecoach/dedup.Table).Done (tmp 51) (tmp 52) (tmp 53) (const (int i64 7))
    refine RL.call (pDoneN _ _ i _ F1 hT _ _ k1 (by decide) pT 1 0 0 ra rc recs 7 hrl o3 o3') rfl rfl ?_
    rintro _ w10 ⟨⟨rfl, Z2, hT2, _⟩, hx⟩
    replace H := ext_z H hT (Nat.le_refl _) hx; replace hb2 := box_z hb2 hT (by decide) (by decide) (by decide) hx
    replace hT := hT2; clear hT2
    refine RL.nil ?_
    refine AL.p 4 (by kernel_rfl) rfl (asgI rfl) rfl ?_
    refine AL.nil (by kernel_rfl) ?_
    refine WP.seq ?_
    refine WP.any ?_
    intro w11 hx; replace H := H.ext hx; replace hb2 := hb2.ext hx; replace hT := hT.ext hx
    refine AL.p 0 (by kernel_rfl) rfl (mvP rfl) rfl ?_
    -- call stagecoach/stagecoachlaw08.of (const (int i64 1)) (const (int i64 0)) (const (int i64 0)) (const (int i64 2))
    refine AL.x 2 (by kernel_rfl) rfl rfl (fun w' hw' => pOf _ 1 0 0 2 (by decide)) ?_
    refine AX.m 1 (by kernel_rfl) rfl rfl (ldS_box rfl hb2 (Nat.le_of_ble_eq_true rfl) rfl) rfl ?_
    refine AX.o (by kernel_rfl) rfl ?_
    rintro v w12 ⟨⟨ra, rc, recs, rfl, hrl⟩, hx⟩
    replace H := H.ext hx; replace hb2 := hb2.ext hx; replace hT := hT.ext hx
    refine AL.o 3 (by kernel_rfl) rfl ?_
    -- call (*stagecoach/dedup.Table).Ask (tmp 56) (tmp 57) (tmp 58)
    refine RL.call (pAskN _ _ i _ F2 hT _ _ k2 (by decide) pT 1 0 0 ra rc recs hrl o4) rfl rfl ?_
    rintro _ w13 ⟨rfl, hx⟩
    replace H := H.ext hx; replace hb2 := hb2.ext hx; replace hT := hT.ext hx
    refine RL.nil ?_
    refine AL.p 4 (by kernel_rfl) rfl (mvU rfl) rfl ?_
    refine AL.p 5 (by kernel_rfl) rfl (ex0 rfl) rfl ?_
    refine AL.p 6 (by kernel_rfl) rfl (ex1 rfl) rfl ?_
    refine AL.p 7 (by kernel_rfl) rfl (ex2 rfl) rfl ?_
    refine AL.p 8 (by kernel_rfl) rfl (asgI rfl) rfl ?_
    refine AL.p 9 (by kernel_rfl) rfl (asgB rfl) rfl ?_
    refine AL.p 10 (by kernel_rfl) rfl (asgI rfl) rfl ?_
    refine AL.nil (by kernel_rfl) ?_
    refine WP.seq ?_
    refine WP.any ?_
    intro w14 hx; replace H := H.ext hx; replace hb2 := hb2.ext hx; replace hT := hT.ext hx
    refine AL.p 0 (by kernel_rfl) rfl (mvP rfl) rfl ?_
    -- call stagecoach/stagecoachlaw08.of (const (int i64 1)) (const (int i64 0)) (const (int i64 3)) (const (int i64 1))
    refine AL.x 2 (by kernel_rfl) rfl rfl (fun w' hw' => pOf _ 1 0 3 1 (by decide)) ?_
    refine AX.m 1 (by kernel_rfl) rfl rfl (ldS_box rfl hb2 (Nat.le_of_ble_eq_true rfl) rfl) rfl ?_
    refine AX.o (by kernel_rfl) rfl ?_
    rintro v w15 ⟨⟨ra, rc, recs, rfl, hrl⟩, hx⟩
    replace H := H.ext hx; replace hb2 := hb2.ext hx; replace hT := hT.ext hx
    refine AL.o 3 (by kernel_rfl) rfl ?_
    -- call (*stagecoach/dedup.Table).Ask (tmp 64) (tmp 65) (tmp 66)
    refine RL.call (pAskN _ _ i _ F2 hT _ _ k2 (by decide) pT 1 0 3 ra rc recs hrl o5) rfl rfl ?_
    rintro _ w16 ⟨rfl, hx⟩
    replace H := H.ext hx; replace hb2 := hb2.ext hx; replace hT := hT.ext hx
    refine RL.nil ?_
    refine AL.p 4 (by kernel_rfl) rfl (mvU rfl) rfl ?_
    refine AL.p 5 (by kernel_rfl) rfl (ex0 rfl) rfl ?_
    refine AL.p 6 (by kernel_rfl) rfl (ex1 rfl) rfl ?_
    refine AL.p 7 (by kernel_rfl) rfl (ex2 rfl) rfl ?_
    refine AL.p 8 (by kernel_rfl) rfl (asgI rfl) rfl ?_
    refine AL.p 9 (by kernel_rfl) rfl (asgB rfl) rfl ?_
    refine AL.p 10 (by kernel_rfl) rfl (asgI rfl) rfl ?_
    refine AL.nil (by kernel_rfl) ?_
    refine WP.seq ?_
    refine WP.any ?_
    intro w17 hx; replace H := H.ext hx; replace hb2 := hb2.ext hx; replace hT := hT.ext hx
    refine AL.p 0 (by kernel_rfl) rfl (mvP rfl) rfl ?_
    -- call stagecoach/stagecoachlaw08.of (const (int i64 2)) (const (int i64 0)) (const (int i64 0)) (const (int i64 1))
    refine AL.x 2 (by kernel_rfl) rfl rfl (fun w' hw' => pOf _ 2 0 0 1 (by decide)) ?_
    refine AX.m 1 (by kernel_rfl) rfl rfl (ldS_box rfl hb2 (Nat.le_of_ble_eq_true rfl) rfl) rfl ?_
    refine AX.o (by kernel_rfl) rfl ?_
    rintro v w18 ⟨⟨ra, rc, recs, rfl, hrl⟩, hx⟩
    replace H := H.ext hx; replace hb2 := hb2.ext hx; replace hT := hT.ext hx
    refine AL.o 3 (by kernel_rfl) rfl ?_
    -- call (*stagecoach/dedup.Table).Ask (tmp 72) (tmp 73) (tmp 74)
    refine RL.call (pAskN _ _ i _ F2 hT _ _ k2 (by decide) pT 2 0 0 ra rc recs hrl o6) rfl rfl ?_
    rintro _ w19 ⟨rfl, hx⟩
    replace H := H.ext hx; replace hb2 := hb2.ext hx; replace hT := hT.ext hx
    refine RL.nil ?_
    refine AL.p 4 (by kernel_rfl) rfl (mvU rfl) rfl ?_
    refine AL.p 5 (by kernel_rfl) rfl (ex0 rfl) rfl ?_
    refine AL.p 6 (by kernel_rfl) rfl (ex1 rfl) rfl ?_
    refine AL.p 7 (by kernel_rfl) rfl (ex2 rfl) rfl ?_
    refine AL.p 8 (by kernel_rfl) rfl (asgI rfl) rfl ?_
    refine AL.p 9 (by kernel_rfl) rfl (asgB rfl) rfl ?_
    refine AL.p 10 (by kernel_rfl) rfl (asgI rfl) rfl ?_
    refine AL.nil (by kernel_rfl) ?_
    refine WP.regionS ?_
    refine RL.r (mvP rfl) rfl ?_
    -- call (*stagecoach/dedup.Table).Makers (tmp 79)
    refine RL.call (pMakers _ _ i _ F2 hT _ _ k2 (by decide)) rfl rfl ?_
    rintro v w20 ⟨⟨aM, cM, Lm, rfl, hM, hMO, hMm⟩, hx⟩
    replace H := H.ext hx; replace hb2 := hb2.ext hx; replace hT := hT.ext hx
    have hLl : Lm.length = 1 := by have := congrArg List.length hMm; simpa using this
    have hm0 : (Lm[0]'(by omega)).mk' = ⟨1, 0, pT, [⟨0, 2, 7⟩]⟩ := by have h := congrArg (fun l : List Mk => l[0]?) hMm; simp only [List.getElem?_map, List.getElem?_eq_getElem (show 0 < Lm.length by omega)] at h; exact Option.some.inj h
    obtain ⟨qM, hqM⟩ := hM.sl.isAddr (by decide) (show 0 < Lm.length by omega)
    subst hqM
    refine RL.r (asgL rfl) rfl ?_
    refine RL.nil ?_
    refine WP.regionS ?_
    refine RL.r (mvP rfl) rfl ?_
    -- call (*stagecoach/dedup.Table).Epochs (tmp 82)
    refine RL.call (pEpochs _ _ i _ F2 hT (by decide)) rfl rfl ?_
    rintro v w21 ⟨⟨aE, cE, rfl, hE⟩, hx⟩
    replace H := H.ext hx; replace hb2 := hb2.ext hx; replace hT := hT.ext hx; replace hM := hM.ext hx; replace hMO := hMO.ext hx
    refine RL.r (mvL rfl) rfl ?_
    -- call stagecoach/dedup.Load (tmp 83) (tmp 84)
    refine RL.call (pLoad_ok _ aE cE F2.E hE.sl (by decide) (some qM) cM Lm hM.sl (by omega) (rows_of hMO) (okD_ldE k2 (by decide) hMm)) rfl rfl ?_
    rintro v w22 ⟨⟨iu, Zu, rfl, _⟩, hx⟩
    replace H := H.ext hx; replace hb2 := hb2.ext hx; replace hT := hT.ext hx; replace hM := hM.ext hx; replace hMO := hMO.ext hx; replace hE := hE.ext hx
    refine RL.r (mvU rfl) rfl ?_
    refine RL.r (ex0 rfl) rfl ?_
    refine RL.r (ex1 rfl) rfl ?_
    refine RL.r (asgP rfl) rfl ?_
    refine RL.r (asgI rfl) rfl ?_
    refine RL.nil ?_
    refine WP.regionS ?_
    refine RL.r (mvP rfl) rfl ?_
    -- call (*stagecoach/dedup.Table).Open (tmp 89) (const (int i64 1))
    refine RL.call (pOpenN _ _ i _ F2 hT _ _ k2 1 o7 o7') rfl rfl ?_
    rintro _ w23 ⟨⟨rfl, Z2, hT2, _⟩, hx⟩
    replace H := ext_z H hT (Nat.le_refl _) hx; replace hb2 := box_z hb2 hT (by decide) (by decide) (by decide) hx; replace hM := own_z hM hT (by decide) (by decide) (by decide) hx
    replace hT := hT2; clear hT2
    refine RL.r (mvU rfl) rfl ?_
    refine RL.r (ex0 rfl) rfl ?_
    refine RL.r (ex1 rfl) rfl ?_
    refine RL.r (ex2 rfl) rfl ?_
    refine RL.r (asgI rfl) rfl ?_
    refine RL.r (asgI rfl) rfl ?_
    refine RL.r (asgI rfl) rfl ?_
    refine RL.nil ?_
    refine WP.seq ?_
    refine WP.any ?_
    intro w24 hx; replace H := H.ext hx; replace hb2 := hb2.ext hx; replace hT := hT.ext hx; replace hM := hM.ext hx
    refine AL.p 0 (by kernel_rfl) rfl (mvP rfl) rfl ?_
    -- call stagecoach/stagecoachlaw08.of (const (int i64 1)) (const (int i64 0)) (const (int i64 2)) (const (int i64 1))
    refine AL.x 2 (by kernel_rfl) rfl rfl (fun w' hw' => pOf _ 1 0 2 1 (by decide)) ?_
    refine AX.m 1 (by kernel_rfl) rfl rfl (ldS_box rfl hb2 (Nat.le_of_ble_eq_true rfl) rfl) rfl ?_
    refine AX.o (by kernel_rfl) rfl ?_
    rintro v w25 ⟨⟨ra, rc, recs, rfl, hrl⟩, hx⟩
    replace H := H.ext hx; replace hb2 := hb2.ext hx; replace hT := hT.ext hx; replace hM := hM.ext hx
    refine AL.o 3 (by kernel_rfl) rfl ?_
    -- call (*stagecoach/dedup.Table).Ask (tmp 95) (tmp 96) (tmp 97)
    refine RL.call (pAskN _ _ i _ F3 hT _ _ k3 (by decide) pT 1 0 2 ra rc recs hrl o8) rfl rfl ?_
    rintro _ w26 ⟨rfl, hx⟩
    replace H := H.ext hx; replace hb2 := hb2.ext hx; replace hT := hT.ext hx; replace hM := hM.ext hx
    refine RL.nil ?_
    refine AL.p 4 (by kernel_rfl) rfl (mvU rfl) rfl ?_
    refine AL.p 5 (by kernel_rfl) rfl (ex0 rfl) rfl ?_
    refine AL.p 6 (by kernel_rfl) rfl (ex1 rfl) rfl ?_
    refine AL.p 7 (by kernel_rfl) rfl (ex2 rfl) rfl ?_
    refine AL.p 8 (by kernel_rfl) rfl (asgI rfl) rfl ?_
    refine AL.p 9 (by kernel_rfl) rfl (asgB rfl) rfl ?_
    refine AL.p 10 (by kernel_rfl) rfl (asgI rfl) rfl ?_
    refine AL.nil (by kernel_rfl) ?_
    refine WP.seq ?_
    refine WP.any ?_
    intro w27 hx; replace H := H.ext hx; replace hb2 := hb2.ext hx; replace hT := hT.ext hx; replace hM := hM.ext hx
    refine AL.p 0 (by kernel_rfl) rfl (mvP rfl) rfl ?_
    -- call stagecoach/stagecoachlaw08.of (const (int i64 1)) (const (int i64 2)) (const (int i64 0)) (const (int i64 1))
    refine AL.x 2 (by kernel_rfl) rfl rfl (fun w' hw' => pOf _ 1 2 0 1 (by decide)) ?_
    refine AX.m 1 (by kernel_rfl) rfl rfl (ldS_box rfl hb2 (Nat.le_of_ble_eq_true rfl) rfl) rfl ?_
    refine AX.o (by kernel_rfl) rfl ?_
    rintro v w28 ⟨⟨ra, rc, recs, rfl, hrl⟩, hx⟩
    replace H := H.ext hx; replace hb2 := hb2.ext hx; replace hT := hT.ext hx; replace hM := hM.ext hx
    refine AL.o 3 (by kernel_rfl) rfl ?_
    -- call (*stagecoach/dedup.Table).Ask (tmp 103) (tmp 104) (tmp 105)
    refine RL.call (pAskN _ _ i _ F3 hT _ _ k3 (by decide) pT 1 2 0 ra rc recs hrl o9) rfl rfl ?_
    rintro _ w29 ⟨rfl, hx⟩
    replace H := H.ext hx; replace hb2 := hb2.ext hx; replace hT := hT.ext hx; replace hM := hM.ext hx
    refine RL.nil ?_
    refine AL.p 4 (by kernel_rfl) rfl (mvU rfl) rfl ?_
    refine AL.p 5 (by kernel_rfl) rfl (ex0 rfl) rfl ?_
    refine AL.p 6 (by kernel_rfl) rfl (ex1 rfl) rfl ?_
    refine AL.p 7 (by kernel_rfl) rfl (ex2 rfl) rfl ?_
    refine AL.p 8 (by kernel_rfl) rfl (asgI rfl) rfl ?_
    refine AL.p 9 (by kernel_rfl) rfl (asgB rfl) rfl ?_
    refine AL.p 10 (by kernel_rfl) rfl (asgI rfl) rfl ?_
    refine AL.nil (by kernel_rfl) ?_
    refine WP.regionS ?_
    refine RL.buildSlice w0.heap.size H.size rfl rfl rfl rfl rfl ?_
    intro w30 i111 hi111 hx hb111
    replace H := H.ext hx; replace hb2 := hb2.ext hx; replace hT := hT.ext hx; replace hM := hM.ext hx; clear hx
    -- call stagecoach/dedup.Load (tmp 111) (const (slice none 0 0))
    refine RL.call (pLoad_no _ _ 1 [-1] (Box.sl1 (x := (-1 : Int)) hb111) (by decide) none 0 [] rfl (by decide) (fun x hx => by cases hx) ldE_neg (by decide)) rfl rfl ?_
    rintro _ w31 ⟨rfl, hx⟩
    replace H := H.ext hx; replace hb2 := hb2.ext hx; replace hT := hT.ext hx; replace hM := hM.ext hx; replace hb111 := hb111.ext hx
    refine RL.r (mvU rfl) rfl ?_
    refine RL.r (ex0 rfl) rfl ?_
    refine RL.r (ex1 rfl) rfl ?_
    refine RL.r (asgP rfl) rfl ?_
    refine RL.r (asgI rfl) rfl ?_
    refine RL.nil ?_
    refine WP.seq ?_
    refine WP.any ?_
    intro w32 hx; replace H := H.ext hx; replace hb2 := hb2.ext hx; replace hT := hT.ext hx; replace hM := hM.ext hx
    refine AL.p 0 (by kernel_rfl) rfl (mvI rfl) rfl ?_
    refine AL.p 1 (by kernel_rfl) rfl (eql rfl rfl) rfl ?_
    refine AL.mvT 2 (by kernel_rfl) rfl rfl (by first | rfl | decide | omega) rfl ?_
    refine AL.pg 3 (by kernel_rfl) rfl rfl rfl rfl (mvI rfl) rfl ?_
    refine AL.pg 4 (by kernel_rfl) rfl rfl rfl rfl (eql rfl rfl) rfl ?_
    refine AL.p 5 (by kernel_rfl) rfl (pickTB rfl rfl) rfl ?_
    refine AL.mvT 6 (by kernel_rfl) rfl rfl (by first | rfl | decide | omega) rfl ?_
    refine AL.pg 7 (by kernel_rfl) rfl rfl rfl rfl (mvI rfl) rfl ?_
    refine AL.pg 8 (by kernel_rfl) rfl rfl rfl rfl (eql rfl rfl) rfl ?_
    refine AL.p 9 (by kernel_rfl) rfl (pickTB rfl rfl) rfl ?_
    refine AL.mvT 10 (by kernel_rfl) rfl rfl (by first | rfl | decide | omega) rfl ?_
    refine AL.pg 11 (by kernel_rfl) rfl rfl rfl rfl (mvB rfl) rfl ?_
    first | refine AL.pg 12 (by kernel_rfl) rfl rfl rfl rfl (notD rfl) rfl ?_ | refine AL.pg 12 (by kernel_rfl) rfl rfl rfl rfl (not_ rfl) rfl ?_
    refine AL.p 13 (by kernel_rfl) rfl (pickTB rfl rfl) rfl ?_
    refine AL.mvT 14 (by kernel_rfl) rfl rfl (by first | rfl | decide | omega) rfl ?_
    refine AL.pg 15 (by kernel_rfl) rfl rfl rfl rfl (mvI rfl) rfl ?_
    refine AL.pg 16 (by kernel_rfl) rfl rfl rfl rfl (eql rfl rfl) rfl ?_
    refine AL.p 17 (by kernel_rfl) rfl (pickTB rfl rfl) rfl ?_
    refine AL.mvT 18 (by kernel_rfl) rfl rfl (by first | rfl | decide | omega) rfl ?_
    refine AL.pg 19 (by kernel_rfl) rfl rfl rfl rfl (mvI rfl) rfl ?_
    refine AL.pg 20 (by kernel_rfl) rfl rfl rfl rfl (eql rfl rfl) rfl ?_
    refine AL.p 21 (by kernel_rfl) rfl (pickTB rfl rfl) rfl ?_
    refine AL.mvT 22 (by kernel_rfl) rfl rfl (by first | rfl | decide | omega) rfl ?_
    refine AL.pg 23 (by kernel_rfl) rfl rfl rfl rfl (mvI rfl) rfl ?_
    refine AL.pg 24 (by kernel_rfl) rfl rfl rfl rfl (eql rfl rfl) rfl ?_
    refine AL.p 25 (by kernel_rfl) rfl (pickTB rfl rfl) rfl ?_
    refine AL.mvT 26 (by decide +kernel) rfl rfl (by first | rfl | decide | omega) rfl ?_
    refine AL.pg 27 (by decide +kernel) rfl rfl rfl rfl (mvB rfl) rfl ?_
    refine AL.p 28 (by decide +kernel) rfl (pickTB rfl rfl) rfl ?_
    refine AL.mvT 29 (by decide +kernel) rfl rfl (by first | rfl | decide | omega) rfl ?_
    refine AL.pg 30 (by decide +kernel) rfl rfl rfl rfl (mvI rfl) rfl ?_
    refine AL.pg 31 (by decide +kernel) rfl rfl rfl rfl (eql rfl rfl) rfl ?_
    refine AL.p 32 (by decide +kernel) rfl (pickTB rfl rfl) rfl ?_
    refine AL.mvT 33 (by decide +kernel) rfl rfl (by first | rfl | decide | omega) rfl ?_
    refine AL.pg 34 (by decide +kernel) rfl rfl rfl rfl (mvI rfl) rfl ?_
    refine AL.pg 35 (by decide +kernel) rfl rfl rfl rfl (eql rfl rfl) rfl ?_
    refine AL.p 36 (by decide +kernel) rfl (pickTB rfl rfl) rfl ?_
    refine AL.mvT 37 (by decide +kernel) rfl rfl (by first | rfl | decide | omega) rfl ?_
    refine AL.pg 38 (by decide +kernel) rfl rfl rfl rfl (mvI rfl) rfl ?_
    refine AL.pg 39 (by decide +kernel) rfl rfl rfl rfl (eql rfl rfl) rfl ?_
    refine AL.p 40 (by decide +kernel) rfl (pickTB rfl rfl) rfl ?_
    refine AL.mvT 41 (by decide +kernel) rfl rfl (by first | rfl | decide | omega) rfl ?_
    refine AL.pg 42 (by decide +kernel) rfl rfl rfl rfl (mvL rfl) rfl ?_
    refine AL.pg 43 (by decide +kernel) rfl rfl rfl rfl (len_sl rfl) rfl ?_
    refine AL.pg 44 (by decide +kernel) rfl rfl rfl rfl (eql rfl rfl) rfl ?_
    refine AL.p 45 (by decide +kernel) rfl (pickTB rfl rfl) rfl ?_
    refine AL.mvT 46 (by decide +kernel) rfl rfl (show (Lm.length : Int) = 1 by omega) rfl ?_
    refine AL.pg 47 (by decide +kernel) rfl rfl rfl rfl (mvL rfl) rfl ?_
    refine AL.pg 48 (by decide +kernel) rfl rfl rfl rfl (ix rfl rfl rfl (show 0 < Lm.length by omega)) rfl ?_
    refine AL.pg 49 (by decide +kernel) rfl rfl rfl rfl (fa_el hM.sl.1 rfl) rfl ?_
    refine AL.mg 50 (by decide +kernel) rfl rfl rfl rfl (ld_el rfl hM.sl (Ext.refl _) rfl (show 0 < Lm.length by omega) rfl) rfl ?_
    refine AL.pg 51 (by decide +kernel) rfl rfl rfl rfl (eql rfl rfl) rfl ?_
    refine AL.p 52 (by decide +kernel) rfl (pickTB rfl rfl) rfl ?_
    refine AL.mvT 53 (by decide +kernel) rfl rfl (congrArg Mk.id hm0) rfl ?_
    refine AL.pg 54 (by decide +kernel) rfl rfl rfl rfl (mvL rfl) rfl ?_
    refine AL.pg 55 (by decide +kernel) rfl rfl rfl rfl (ix rfl rfl rfl (show 0 < Lm.length by omega)) rfl ?_
    refine AL.pg 56 (by decide +kernel) rfl rfl rfl rfl (fa_el hM.sl.1 rfl) rfl ?_
    refine AL.mg 57 (by decide +kernel) rfl rfl rfl rfl (ldS_ef rfl hM.sl (Ext.refl _) (show 0 < Lm.length by omega) rfl (Nat.le_of_ble_eq_true rfl)) rfl ?_
    refine AL.mg 58 (by decide +kernel) rfl rfl rfl rfl (ldS_box rfl hb2 (Nat.le_of_ble_eq_true rfl) rfl) rfl ?_
    refine AL.pg 59 (by decide +kernel) rfl rfl rfl rfl (aeql (α := Part) (p := Lm[0].part) (q := pT) rfl rfl) rfl ?_
    refine AL.p 60 (by decide +kernel) rfl (pickTB rfl rfl) rfl ?_
    refine AL.mvT 61 (by decide +kernel) rfl rfl (congrArg Mk.part hm0) rfl ?_
    refine AL.pg 62 (by decide +kernel) rfl rfl rfl rfl (mvP rfl) rfl ?_
    refine AL.pg 63 (by decide +kernel) rfl rfl rfl rfl (pneqn rfl rfl) rfl ?_
    refine AL.p 64 (by decide +kernel) rfl (pickTB rfl rfl) rfl ?_
    refine AL.mvT 65 (by decide +kernel) rfl rfl (Option.some_ne_none _) rfl ?_
    refine AL.pg 66 (by decide +kernel) rfl rfl rfl rfl (mvI rfl) rfl ?_
    refine AL.pg 67 (by decide +kernel) rfl rfl rfl rfl (eql rfl rfl) rfl ?_
    refine AL.p 68 (by decide +kernel) rfl (pickTB rfl rfl) rfl ?_
    refine AL.mvT 69 (by decide +kernel) rfl rfl (by first | rfl | decide | omega) rfl ?_
    refine AL.pg 70 (by decide +kernel) rfl rfl rfl rfl (mvI rfl) rfl ?_
    refine AL.pg 71 (by decide +kernel) rfl rfl rfl rfl (eql rfl rfl) rfl ?_
    refine AL.p 72 (by decide +kernel) rfl (pickTB rfl rfl) rfl ?_
    refine AL.mvT 73 (by decide +kernel) rfl rfl (by first | rfl | decide | omega) rfl ?_
    refine AL.pg 74 (by decide +kernel) rfl rfl rfl rfl (mvI rfl) rfl ?_
    refine AL.pg 75 (by decide +kernel) rfl rfl rfl rfl (eql rfl rfl) rfl ?_
    refine AL.p 76 (by decide +kernel) rfl (pickTB rfl rfl) rfl ?_
    refine AL.mvT 77 (by decide +kernel) rfl rfl (by first | rfl | decide | omega) rfl ?_
    refine AL.pg 78 (by decide +kernel) rfl rfl rfl rfl (mvI rfl) rfl ?_
    refine AL.pg 79 (by decide +kernel) rfl rfl rfl rfl (eql rfl rfl) rfl ?_
    refine AL.p 80 (by decide +kernel) rfl (pickTB rfl rfl) rfl ?_
    refine AL.mvT 81 (by decide +kernel) rfl rfl (by first | rfl | decide | omega) rfl ?_
    refine AL.pg 82 (by decide +kernel) rfl rfl rfl rfl (mvI rfl) rfl ?_
    refine AL.pg 83 (by decide +kernel) rfl rfl rfl rfl (eql rfl rfl) rfl ?_
    refine AL.p 84 (by decide +kernel) rfl (pickTB rfl rfl) rfl ?_
    refine AL.mvT 85 (by decide +kernel) rfl rfl (by first | rfl | decide | omega) rfl ?_
    refine AL.pg 86 (by decide +kernel) rfl rfl rfl rfl (mvI rfl) rfl ?_
    refine AL.pg 87 (by decide +kernel) rfl rfl rfl rfl (eql rfl rfl) rfl ?_
    refine AL.p 88 (by decide +kernel) rfl (pickTB rfl rfl) rfl ?_
    refine AL.mvT 89 (by decide +kernel) rfl rfl (by first | rfl | decide | omega) rfl ?_
    refine AL.pg 90 (by decide +kernel) rfl rfl rfl rfl (mvI rfl) rfl ?_
    refine AL.pg 91 (by decide +kernel) rfl rfl rfl rfl (eql rfl rfl) rfl ?_
    refine AL.p 92 (by decide +kernel) rfl (pickTB rfl rfl) rfl ?_
    refine AL.mvT 93 (by decide +kernel) rfl rfl (by first | rfl | decide | omega) rfl ?_
    refine AL.pg 94 (by decide +kernel) rfl rfl rfl rfl (mvP rfl) rfl ?_
    refine AL.o 95 (by decide +kernel) rfl ?_
    refine RL.yes rfl rfl rfl ?_
    -- call (*stagecoach/dedup.Table).Makers (tmp 209)
    refine RL.call (pMakers _ _ i _ F3 hT _ _ k3 (by decide)) rfl rfl ?_
    rintro v w33 ⟨⟨aN, cN, Ln, rfl, hN, hNO, hNm⟩, hx⟩
    replace H := H.ext hx; replace hb2 := hb2.ext hx; replace hT := hT.ext hx; replace hM := hM.ext hx
    refine RL.nil ?_
    refine AL.pg 96 (by decide +kernel) rfl rfl rfl rfl (len_sl rfl) rfl ?_
    refine AL.pg 97 (by decide +kernel) rfl rfl rfl rfl (eql rfl rfl) rfl ?_
    refine AL.p 98 (by decide +kernel) rfl (pickTB rfl rfl) rfl ?_
    refine AL.p 99 (by decide +kernel) rfl (asgB rfl) rfl ?_
    refine AL.nil (by decide +kernel) ?_
    refine WP.ret ?_
    refine fin1_ret rfl ⟨congrArg Value.bool (decide_eq_true (show (Ln.length : Int) = 0 by have h := congrArg List.length hNm; rw [List.length_map] at h; rw [h]; rfl)), H⟩
theorem lFixedD (w0 : World) : Ct Try.prog 11 #[] w0 fun v w' => v = .bool (decide ((0 : Nat) = 0)) ∧ Ext w0 w' :=
  (lFixed w0).mono fun v w' ⟨h, hx⟩ => ⟨by rw [h]; rfl, hx⟩
end Go.Proofs.Ytbggmjnhfacjpaa
