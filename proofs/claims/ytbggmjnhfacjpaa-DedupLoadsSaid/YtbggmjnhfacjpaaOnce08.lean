/-
  DedupOnce: the walk.
-/
import Derived.Test.YtbggmjnhfacjpaaFence08
set_option linter.unusedVariables false
namespace Go.Proofs.Ytbggmjnhfacjpaa
open Go Go.Eng Go.RowKit
abbrev pO : Part := ⟨tS, 1⟩
theorem ch_lt {K : Int} {l : List Did} (h : chK K l) {i : Nat} : ∀ {k : Nat} (hik : i < k) (hk : k < l.length), (l[i]'(by omega)).seq + (l[i]'(by omega)).n ≤ l[k].seq := by
  intro k
  induction k with
  | zero => intro hik; omega
  | succ k ih =>
    intro hik hk
    have h1 := (h (k + 1) hk).2.2.2.2 (by omega)
    simp only [Nat.add_sub_cancel] at h1
    have h2 := (h k (by omega)).2.1
    rcases Nat.lt_or_ge i k with h3 | h3
    · have := ih h3 (by omega)
      omega
    · obtain rfl : i = k := by omega
      omega
theorem win_push (L : List Did) (d : Did) : pushL (L.drop (L.length - 5)) d = (L ++ [d]).drop ((L ++ [d]).length - 5) := by
  unfold pushL
  have e : L.drop (L.length - 5) ++ [d] = (L ++ [d]).drop (L.length - 5) := by
    rw [List.drop_append_of_le_length (by omega)]
  rw [e, List.drop_drop]
  congr 1
  rw [List.length_drop, List.length_append, List.length_singleton]
  omega
theorem win_due (L : List Did) : dueL (L.drop (L.length - 5)) = dueL L := by
  rcases Nat.eq_zero_or_pos L.length with h | h
  · obtain rfl := List.eq_nil_of_length_eq_zero h
    rfl
  · exact dueL_drop (by omega)
theorem win_late {K : Int} {L : List Did} (h : chK K L) {k : Nat} (hk : k < L.length) (hl : 5 < L.length - k) (n : Nat) : idxN (L.drop (L.length - 5)) L[k].seq n = none := by
  unfold idxN
  rw [List.findIdx?_eq_none_iff]
  intro x hx
  obtain ⟨i, hi, rfl⟩ := List.getElem_of_mem hx
  rw [List.length_drop] at hi
  rw [List.getElem_drop]
  have h1 := ch_lt h (i := k) (k := L.length - 5 + i) (by omega) (by omega)
  have h2 := (h k hk).2.1
  rw [decide_eq_false_iff_not]
  rintro ⟨h3, _⟩
  omega
theorem win_hit {K : Int} {L : List Did} (h : chK K L) {k : Nat} (hk : k < L.length) (hl : L.length - k ≤ 5) : idxN (L.drop (L.length - 5)) L[k].seq L[k].n.toNat = some (k - (L.length - 5)) := by
  unfold idxN
  rw [List.findIdx?_eq_some_iff_getElem]
  have h2 := (h k hk).2.1
  refine ⟨by rw [List.length_drop]; omega, ?_, fun i hi => ?_⟩
  · rw [List.getElem_drop, decide_eq_true_eq]
    have e : L.length - 5 + (k - (L.length - 5)) = k := by omega
    simp only [e]
    exact ⟨rfl, by omega⟩
  · rw [List.getElem_drop, decide_eq_true_eq]
    have h1 := ch_lt h (i := L.length - 5 + i) (k := k) (by omega) hk
    have h3 := (h (L.length - 5 + i) (by omega)).2.1
    rintro ⟨h4, _⟩
    omega
theorem win_seq {K : Int} {L : List Did} (h : chK K L) {k : Nat} (hk : k < L.length) : L[k].seq ≠ dueL L := by
  rw [dueL_last (j := L.length - 1) (by omega)]
  have h1 := (h k hk).2.1
  have h2 := (h (L.length - 1) (by omega)).2.1
  rcases Nat.lt_or_ge k (L.length - 1) with h3 | h3
  · have := ch_lt h h3 (by omega)
    omega
  · obtain rfl : k = L.length - 1 := by omega
    omega
/-- what the table holds behind j batches -/
structure OnI (j : Nat) (L : List Did) (D : Ds) : Prop where
  ok : okD (8 * (j : Int)) j D
  E : D.E = [0]
  last : lastD D.S ⟨1, pO⟩ = L.drop (L.length - 5)
  ch : chK (8 * (j : Int)) L
  len : L.length = j
theorem onI0 : OnI 0 [] F1 := ⟨k1, rfl, rfl, chK_nil _, rfl⟩
theorem OnI.is1 {j : Nat} {L : List Did} {D : Ds} (h : OnI j L D) : isD D.E 1 ∧ ep D.E 1 = 0 := by
  rw [h.E]
  exact ⟨by decide, rfl⟩
theorem OnI.due {j : Nat} {L : List Did} {D : Ds} (h : OnI j L D) : dueL (lastD D.S ⟨1, pO⟩) = dueL L := by rw [h.last, win_due]
theorem OnI.bnd {j : Nat} {L : List Did} {D : Ds} (h : OnI j L D) : 0 ≤ dueL L ∧ dueL L ≤ 8 * (j : Int) := by
  have := lastD_due h.ok (by omega) ⟨1, pO⟩
  rwa [h.due] at this
theorem OnI.ask {j : Nat} {L : List Did} {D : Ds} (h : OnI j L D) (n : Nat) : askN D pO 1 0 (dueL L) n = (0, false, 0) := ask_due (by decide) h.is1.1 h.is1.2.symm h.due.symm
theorem OnI.done {j : Nat} {L : List Did} {D : Ds} (h : OnI j L D) {n : Nat} {off : Int} (h1 : 1 ≤ n) (h8 : n ≤ 8) (ho : numB off) : doneEN D pO 1 0 (dueL L) n off = 0 ∧ OnI (j + 1) (L ++ [⟨dueL L, (n : Int), off⟩]) (doneDN D pO 1 0 (dueL L) n off) := by
  have hE : doneEN D pO 1 0 (dueL L) n off = 0 := done_due (by decide) h.is1.1 h.is1.2.symm h.due.symm h1 ho
  have hb := h.bnd
  refine ⟨hE, (okD_done h.ok (by omega) pO 1 0 (dueL L) n off).mono (by omega) (Nat.le_refl _), done_E.trans h.E, ?_, ?_, by rw [List.length_append, h.len]; rfl⟩
  · rw [done_last h.ok hE (by decide), if_pos rfl, h.last, win_push]
  · exact (h.ch.mono (by omega)).snoc rfl hb.1 (by show 1 ≤ (n : Int); omega) (by show dueL L + (n : Int) ≤ _; omega) ho
theorem OnI.late {j : Nat} {L : List Did} {D : Ds} (h : OnI j L D) {k : Nat} (hk : k < L.length) (hl : 5 < L.length - k) (n : Nat) : askN D pO 1 0 L[k].seq n = (0, false, 82) := by
  unfold askN
  rw [if_neg (by decide), if_neg (not_not_intro h.is1.1), h.is1.2, if_neg (by decide), if_neg (by decide), if_neg (by rw [h.due]; exact win_seq h.ch hk), h.last, win_late h.ch hk hl]
theorem OnI.hit {j : Nat} {L : List Did} {D : Ds} (h : OnI j L D) {k : Nat} (hk : k < L.length) (hl : L.length - k ≤ 5) : askN D pO 1 0 L[k].seq L[k].n.toNat = (L[k].off, true, 0) := by
  have hi : k - (L.length - 5) < (lastD D.S ⟨1, pO⟩).length := by rw [h.last, List.length_drop]; omega
  have h1 := ask_had (D := D) (p := pO) (epoch := 0) (by decide) h.is1.1 h.is1.2.symm (by rw [h.due]; exact win_seq h.ch hk) (by rw [h.last]; exact win_hit h.ch hk hl) hi
  rw [h1]
  have h2 : (lastD D.S ⟨1, pO⟩)[k - (L.length - 5)]? = some L[k] := by
    rw [h.last, List.getElem?_drop, show L.length - 5 + (k - (L.length - 5)) = k by omega, List.getElem?_eq_getElem hk]
  rw [List.getElem?_eq_getElem hi] at h2
  rw [Option.some.inj h2]
theorem Apt.fr {Z : Nat → Prop} {B i : Nat} {w : World} {D : Ds} {a a' : Option Addr} (h : Apt Z (inBlock a)) (hT : Tg B w i Z D) (hf : Fr w a a') : Apt Z (inBlock a') := by
  intro k hz hk
  rcases hf k hk with h1 | h1
  · exact h k hz h1
  · exact absurd (hT.old hz).2 (by rw [h1]; exact Nat.lt_irrefl _)
set_option maxRecDepth 20000 in
set_option maxHeartbeats 3200000 in
theorem lOnce (w0 : World) (a : Option Addr) (c : Nat) (l : List Int) (a2 : Option Addr) (c2 : Nat) (l2 : List Int) (hl : SlI w0 a l) (hl2 : SlI w0 a2 l2) :
    Ct Try.prog 4 #[.slice a l.length c, .slice a2 l2.length c2] w0 fun v w' => v = .bool true ∧ Ext w0 w' := by
  refine Ct.intro1 Try.func4 Try.ntmps4 rfl rfl (by decide) rfl ?_
  have H : Ext w0 w0 := Ext.refl w0
  refine WP.regionS ?_
  refine RL.r (asgB rfl) rfl ?_
  refine RL.nil ?_
  refine WP.regionS ?_
  -- call stagecoach/dedup.New 
  have hs0 := H.size
  refine RL.call (pNew _) rfl rfl ?_
  rintro v w1 ⟨⟨it, m, rfl, hbt, hmm⟩, hx⟩
  replace H := H.ext hx
  have hT := tg_new hbt hmm
  replace hT := hT.mono hs0
  refine RL.r (bld rfl rfl) rfl ?_
  refine RL.alloc w0.heap.size H.size rfl rfl ?_
  intro w2 i6 hi6 hx hb6
  refine RL.r (asgP rfl) rfl ?_
  refine RL.storeS rfl hb6 rfl rfl rfl rfl ?_
  intro w3 hu hb6
  replace hx := hx.box hu (Nat.le_of_eq hi6.symm)
  replace H := H.ext hx; replace hT := hT.ext hx; clear hx hu
  refine RL.nil ?_
  refine WP.seq ?_
  refine WP.regionS ?_
  refine RL.r (mvP rfl) rfl ?_
  refine RL.r (peqn rfl rfl) rfl ?_
  refine RL.nil ?_
  refine WP.cond rfl (fun hc => ?_) (fun hc => ?_)
  · refine WP.regionS ?_
    refine RL.r (asgB rfl) rfl ?_
    refine RL.nil ?_
    refine WP.ret ?_
    refine fin1_ret rfl ⟨absurd hc (by simp), H⟩
  · refine WP.skip ?_
    refine WP.regionS ?_
    refine RL.r (mvP rfl) rfl ?_
    -- call (*stagecoach/dedup.Table).Open (tmp 28) (const (int i64 0))
    refine RL.call (pOpenS _ _ it _ d0 hT 0 0 okD0 0 o1 o1') rfl rfl ?_
    rintro _ w4 ⟨⟨e1, he1, rfl, Z2, hT2, _⟩, hx⟩
    replace H := ext_z H hT (Nat.le_refl _) hx; replace hb6 := box_z hb6 hT (by decide) (by decide) (by decide) hx
    replace hT := hT2; clear hT2
    have hTo := fun k hz => (hT.old (j := k) hz).2
    refine RL.r (mvU rfl) rfl ?_
    refine RL.r (ex0 rfl) rfl ?_
    refine RL.r (ex1 rfl) rfl ?_
    refine RL.r (ex2 rfl) rfl ?_
    refine RL.r (asgI rfl) rfl ?_
    refine RL.r (asgI rfl) rfl ?_
    refine RL.r (asgI rfl) rfl ?_
    refine RL.nil ?_
    refine WP.regionS ?_
    refine RL.build0 (α := Did) w0.heap.size H.size rfl ?_
    intro w5 i33 hi33 hx hb33
    replace H := H.ext hx; replace hb6 := hb6.ext hx; replace hT := hT.ext hx; clear hx
    refine RL.r (asgI rfl) rfl ?_
    refine RL.r (asgL rfl) rfl ?_
    refine RL.nil ?_
    refine WP.seq ?_
    refine WP.regionS ?_
    refine RL.r (asgI rfl) rfl ?_
    refine RL.nil ?_
    refine WP.block ?_
    refine WP.loop (fun k e' w' => ∃ j : Nat, ∃ (D : Ds) (Z : Nat → Prop) (a11 : Option Addr) (c11 : Nat) (L : List Did),  j + k = min l.length 40 ∧ Head [4, 10, 11, 12, 13, 14, 15, 16, 17, 18, 19, 20, 21, 22, 34, 35, 36, 37, 38, 39, 40, 41, 42, 43, 44, 45, 46, 47, 48, 49, 50, 51, 52, 53, 54, 55, 56, 57, 58, 59, 60, 61, 62, 63, 64, 65, 66, 67, 68, 69, 70, 71, 72, 73, 74, 75, 76, 77, 78, 79, 80, 81, 82, 83, 84, 85, 86, 87, 88, 89, 90, 91, 92, 93, 94, 95, 96, 97, 98, 99, 100, 101, 102, 103, 104, 105, 106, 107, 108, 109, 110, 111, 112, 113, 114, 115, 116, 117, 118, 119, 120, 121, 122, 123, 124, 125, 126, 127, 128, 129, 130, 131, 132, 133, 134, 135, 136, 137, 138, 139, 140, 141, 142, 143, 144, 145, 146, 147, 148, 149, 150, 151, 152, 153, 154, 155, 156, 157, 158, 159] _ [(10, .int .i64 (dueL L)), (11, .slice a11 L.length c11), (12, .int .i64 (j : Int))] e' ∧ Ext w0 w' ∧ Box w0.heap.size w' i6 25 (Lies.enc pO) ∧ Tg w0.heap.size w' it Z D ∧ Own w0.heap.size w' 53 a11 c11 L ∧ Apt Z (inBlock a11) ∧ OnI j L D) (min l.length 40)
      ⟨0, _, _, _, _, [], by omega, Head.intro (AgreeOff.refl _ _) ⟨rfl, rfl, rfl, trivial⟩, H, hb6, hT, hb33, (fun k hz hk => by obtain ⟨p, hp, hk⟩ := hk; cases hp; have h1 := hTo k hz; subst hk; exact absurd h1 (by show ¬ i33 < _; omega)), onI0⟩ ?_
    clear H hb6 hT hb33
    rintro k e w6 ⟨j, D, Z, a11, c11, L, hjk, ⟨jk, rfl⟩, H, hb6, hT, hL, hA, hO⟩
    have hbd := hO.bnd
    have hLl := hO.len
    refine WP.seq ?_
    refine WP.seq (WP.quiet ?_)
    refine QL.r (mvI rfl) rfl ?_
    refine QL.r (mvL rfl) rfl ?_
    refine QL.r (len_sl rfl) rfl ?_
    refine QL.r (lss rfl rfl) rfl ?_
    refine QL.r (mvB rfl) rfl ?_
    refine QL.gg (gwT rfl rfl) (fun hg => (mvI rfl).does _) rfl ?_
    refine QL.gg (gwT rfl rfl) (fun hg => (lss (gs hg rfl) rfl).does _) rfl ?_
    refine QL.r (pickAnd rfl (fun hn => gs hn rfl)) rfl ?_
    refine QL.nil ?_; intro w7 hx; replace H := H.ext hx; replace hb6 := hb6.ext hx; replace hT := hT.ext hx; replace hL := hL.ext hx
    refine WP.cond rfl (fun hc => ?_) (fun hc => ?_)
    · refine WP.skip ?_
      refine WP.seq ?_
      refine WP.block ?_
      refine WP.regionS ?_
      refine RL.r (mvL rfl) rfl ?_
      refine RL.r (mvI rfl) rfl ?_
      have hj : j < l.length := by omega
      have hl := hl (List.ne_nil_of_length_pos (by omega))
      obtain ⟨q, hq⟩ := hl.isAddr (by decide) hj
      subst hq
      have hand := andv_le 7 (by decide) l[j]
      refine RL.r (ix rfl rfl rfl hj) rfl ?_
      refine RL.m (ld_e0 rfl hl H rfl hj rfl) rfl ?_
      refine RL.r (andk (K := 7) rfl rfl (by decide)) rfl ?_
      refine RL.r (add rfl rfl (by omega)) rfl ?_
      refine RL.r (asgI rfl) rfl ?_
      refine RL.nil ?_
      refine WP.regionS ?_
      refine RL.r (mvI rfl) rfl ?_
      refine RL.r (mvI rfl) rfl ?_
      refine RL.r (mvI rfl) rfl ?_
      refine RL.r (mvI rfl) rfl ?_
      -- call stagecoach/stagecoachlaw08.of (tmp 50) (tmp 51) (tmp 52) (tmp 53)
      have hOf : ∀ w', Ct Try.prog 19 #[.int .i64 1, .int .i64 0, .int .i64 (dueL L), .int .i64 (1 + ((andv 7 l[j] : Nat) : Int))] w' fun v w'' => (∃ (ra : Option Addr) (rc : Nat) (recs : List Rec), v = .agg (Lies.enc (⟨1, 0, dueL L, ra, rc, recs⟩ : Bat)).toArray ∧ recs.length = (1 + ((andv 7 l[j] : Nat) : Int)).toNat) ∧ Ext w' w'' := fun w' => pOf w' 1 0 _ _ (by omega)
      refine RL.call (hOf _) rfl rfl ?_
      rintro v w8 ⟨⟨ra, rc, recs, rfl, hrl⟩, hx⟩
      replace H := H.ext hx; replace hb6 := hb6.ext hx; replace hT := hT.ext hx; replace hL := hL.ext hx
      refine RL.alloc w0.heap.size H.size rfl rfl ?_
      intro w9 i14 hi14 hx hb14
      have ne6_14 := hb6.ne hi14
      refine RL.storeS rfl hb14 rfl rfl rfl rfl ?_
      intro w10 hu hb14
      replace hx := hx.box hu (Nat.le_of_eq hi14.symm)
      replace H := H.ext hx; replace hb6 := hb6.ext hx; replace hT := hT.ext hx; replace hL := hL.ext hx; clear hx hu
      refine RL.nil ?_
      refine WP.regionS ?_
      refine RL.r (mvP rfl) rfl ?_
      refine RL.m (ldS_box rfl hb6 (Nat.le_of_ble_eq_true rfl) rfl) rfl ?_
      refine RL.m (ldS_box rfl hb14 (Nat.le_of_ble_eq_true rfl) rfl) rfl ?_
      -- call (*stagecoach/dedup.Table).Ask (tmp 56) (tmp 57) (tmp 58)
      have hrn : recs.length = (1 + andv 7 l[j]) := by omega
      refine RL.call (pAskS _ _ it _ D hT _ _ hO.ok (by omega) pO 1 0 (dueL L) ra rc recs hrn) rfl rfl ?_
      rintro v w11 ⟨⟨r4, t4, e4, ha4, rfl⟩, hx⟩
      replace H := H.ext hx; replace hb6 := hb6.ext hx; replace hb14 := hb14.ext hx; replace hT := hT.ext hx; replace hL := hL.ext hx
      refine RL.r (mvU rfl) rfl ?_
      refine RL.r (ex0 rfl) rfl ?_
      refine RL.r (ex1 rfl) rfl ?_
      refine RL.r (ex2 rfl) rfl ?_
      refine RL.r (asgI rfl) rfl ?_
      refine RL.r (asgB rfl) rfl ?_
      refine RL.r (asgI rfl) rfl ?_
      refine RL.nil ?_
      refine WP.seq ?_
      refine WP.regionS ?_
      refine RL.r (mvI rfl) rfl ?_
      refine RL.r (neq rfl rfl) rfl ?_
      refine RL.part rfl rfl (fun hg => ?_) (fun hg => ?_)
      · refine RL.no rfl rfl rfl rfl ?_
        refine RL.r (pickT rfl) rfl ?_
        refine RL.r (mvB rfl) rfl ?_
        refine RL.no rfl rfl rfl rfl ?_
        refine RL.no rfl rfl rfl rfl ?_
        refine RL.r (pickT rfl) rfl ?_
        refine RL.r (mvB rfl) rfl ?_
        refine RL.no rfl rfl rfl rfl ?_
        refine RL.no rfl rfl rfl rfl ?_
        refine RL.no rfl rfl rfl rfl ?_
        refine RL.no rfl rfl rfl rfl ?_
        refine RL.no rfl rfl rfl rfl ?_
        refine RL.no rfl rfl rfl rfl ?_
        refine RL.no rfl rfl rfl rfl ?_
        refine RL.no rfl rfl rfl rfl ?_
        refine RL.r (pickT rfl) rfl ?_
        refine RL.nil ?_
        refine WP.condT rfl rfl ?_
        refine WP.regionS ?_
        refine RL.r (asgB rfl) rfl ?_
        refine RL.nil ?_
        refine WP.ret ?_
        refine fin1_ret rfl ⟨absurd he1 hg, H⟩
      · refine RL.yes rfl rfl rfl ?_
        refine RL.r (mvB rfl) rfl ?_
        refine RL.r (pickF rfl) rfl ?_
        refine RL.part rfl rfl (fun hg => ?_) (fun hg => ?_)
        · refine RL.no rfl rfl rfl rfl ?_
          refine RL.no rfl rfl rfl rfl ?_
          refine RL.r (pickT rfl) rfl ?_
          refine RL.r (mvB rfl) rfl ?_
          refine RL.no rfl rfl rfl rfl ?_
          refine RL.no rfl rfl rfl rfl ?_
          refine RL.no rfl rfl rfl rfl ?_
          refine RL.no rfl rfl rfl rfl ?_
          refine RL.no rfl rfl rfl rfl ?_
          refine RL.no rfl rfl rfl rfl ?_
          refine RL.no rfl rfl rfl rfl ?_
          refine RL.no rfl rfl rfl rfl ?_
          refine RL.r (pickT rfl) rfl ?_
          refine RL.nil ?_
          refine WP.condT rfl rfl ?_
          refine WP.regionS ?_
          refine RL.r (asgB rfl) rfl ?_
          refine RL.nil ?_
          refine WP.ret ?_
          refine fin1_ret rfl ⟨absurd hg (by rw [(Prod.mk.inj (Prod.mk.inj (ha4.symm.trans (hO.ask _))).2).1]; decide), H⟩
        · refine RL.yes rfl rfl rfl ?_
          refine RL.r (mvI rfl) rfl ?_
          refine RL.yes rfl rfl rfl ?_
          refine RL.r (neq rfl rfl) rfl ?_
          refine RL.r (pickF rfl) rfl ?_
          refine RL.part rfl rfl (fun hg => ?_) (fun hg => ?_)
          · refine RL.no rfl rfl rfl rfl ?_
            refine RL.no rfl rfl rfl rfl ?_
            refine RL.no rfl rfl rfl rfl ?_
            refine RL.no rfl rfl rfl rfl ?_
            refine RL.no rfl rfl rfl rfl ?_
            refine RL.no rfl rfl rfl rfl ?_
            refine RL.no rfl rfl rfl rfl ?_
            refine RL.no rfl rfl rfl rfl ?_
            refine RL.r (pickT rfl) rfl ?_
            refine RL.nil ?_
            refine WP.condT rfl rfl ?_
            refine WP.regionS ?_
            refine RL.r (asgB rfl) rfl ?_
            refine RL.nil ?_
            refine WP.ret ?_
            refine fin1_ret rfl ⟨absurd (Prod.mk.inj (Prod.mk.inj (ha4.symm.trans (hO.ask _))).2).2 hg, H⟩
          · refine RL.yes rfl rfl rfl ?_
            refine RL.r (mvP rfl) rfl ?_
            refine RL.yes rfl rfl rfl ?_
            refine RL.m (ldS_box rfl hb6 (Nat.le_of_ble_eq_true rfl) rfl) rfl ?_
            refine RL.yes rfl rfl rfl ?_
            refine RL.m (ldS_box rfl hb14 (Nat.le_of_ble_eq_true rfl) rfl) rfl ?_
            refine RL.yes rfl rfl rfl ?_
            refine RL.r (mvI rfl) rfl ?_
            refine RL.yes rfl rfl rfl ?_
            refine RL.r (mul rfl rfl (by omega)) rfl ?_
            refine RL.yes rfl rfl rfl ?_
            refine RL.r (add rfl rfl (by omega)) rfl ?_
            refine RL.yes rfl rfl rfl ?_
            -- call (*stagecoach/dedup.Table).Done (tmp 73) (tmp 74) (tmp 75) (tmp 78)
            have hdn := hO.done (n := (1 + andv 7 l[j])) (off := (100 + 3 * (j : Int))) (by omega) (by omega) ⟨by omega, by omega⟩
            have hlt5 := fun (k : Nat) (hk : inBlock a11 k) => (hL.blk hk).2
            refine RL.call (pDoneS _ _ it _ D hT _ _ hO.ok (by omega) pO 1 0 (dueL L) ra rc recs (100 + 3 * (j : Int)) hrn) rfl rfl ?_
            rintro _ w12 ⟨⟨e5, he5, rfl, Z2, hT2, hgr⟩, hx⟩
            replace H := ext_z H hT (Nat.le_refl _) hx; replace hb6 := box_z hb6 hT (by decide) (by decide) (by decide) hx; replace hb14 := box_z hb14 hT (by decide) (by decide) (by decide) hx; replace hL := hL.upd hx (fun k hk hz => hA k hz hk)
            replace hA := hA.grew hgr hlt5
            replace hT := hT2; clear hT2
            refine RL.yes rfl rfl rfl ?_
            refine RL.r (neq rfl rfl) rfl ?_
            refine RL.r (pickF rfl) rfl ?_
            refine RL.nil ?_
            refine WP.cond rfl (fun hc => ?_) (fun hc => ?_)
            · refine WP.regionS ?_
              refine RL.r (asgB rfl) rfl ?_
              refine RL.nil ?_
              refine WP.ret ?_
              refine fin1_ret rfl ⟨absurd (he5.symm.trans hdn.1) hc, H⟩
            · refine WP.skip ?_
              refine WP.regionS ?_
              refine RL.r (mvL rfl) rfl ?_
              refine RL.r (mvI rfl) rfl ?_
              refine RL.r (mvI rfl) rfl ?_
              refine RL.r (mvI rfl) rfl ?_
              refine RL.r (mul rfl rfl (by omega)) rfl ?_
              refine RL.r (add rfl rfl (by omega)) rfl ?_
              refine RL.r (bld rfl rfl) rfl ?_
              refine RL.buildSlice w0.heap.size H.size rfl rfl rfl rfl rfl ?_
              intro w13 i89 hi89 hx hb89
              replace H := H.ext hx; replace hb6 := hb6.ext hx; replace hb14 := hb14.ext hx; replace hT := hT.ext hx; replace hL := hL.ext hx; clear hx
              refine RL.appendS rfl hL H.size rfl (show Sl _ _ [(⟨dueL L, 1 + ((andv 7 l[j] : Nat) : Int), (100 + 3 * (j : Int))⟩ : Did)] from Box.sl1 hb89) rfl rfl (by decide) rfl cell1 (by omega) (by simp only [maxLen]; omega) rfl ?_
              intro w14 a90 c90 hu hL2 hfr90
              have hA2 := hA.fr hT hfr90
              replace hT := hT.upd hu (fun j hj e => hA j hj e)
              replace hb6 := boxow hb6 hL (by decide) hu
              replace hb14 := boxow hb14 hL (by decide) hu
              replace H := Ext.own H hL hu; clear hu
              have hO2 := hdn.2
              have hcast : (((1 + andv 7 l[j]) : Nat) : Int) = (1 + ((andv 7 l[j] : Nat) : Int)) := by omega
              rw [hcast] at hO2
              have hsn : dueL (L ++ [(⟨dueL L, 1 + ((andv 7 l[j] : Nat) : Int), (100 + 3 * (j : Int))⟩ : Did)]) = dueL L + (1 + ((andv 7 l[j] : Nat) : Int)) := dueL_snoc L (⟨dueL L, 1 + ((andv 7 l[j] : Nat) : Int), (100 + 3 * (j : Int))⟩ : Did)
              generalize hL2e : L ++ [(⟨dueL L, 1 + ((andv 7 l[j] : Nat) : Int), (100 + 3 * (j : Int))⟩ : Did)] = L2 at hL2 hO2 hsn ⊢
              have hL2l := hO2.len
              generalize hD2e : doneDN D pO 1 0 (dueL L) (1 + andv 7 l[j]) (100 + 3 * (j : Int)) = D2 at hT hO2
              refine RL.r (asgL rfl) rfl ?_
              refine RL.nil ?_
              refine WP.regionS ?_
              refine RL.r (mvI rfl) rfl ?_
              refine RL.r (mvI rfl) rfl ?_
              refine RL.r (add rfl rfl (by omega)) rfl ?_
              refine RL.r (asgI rfl) rfl ?_
              refine RL.nil ?_
              refine WP.regionS ?_
              refine RL.r (mvI rfl) rfl ?_
              refine RL.r (mvL rfl) rfl ?_
              refine RL.r (len_sl rfl) rfl ?_
              refine RL.r (lss rfl rfl) rfl ?_
              refine RL.nil ?_
              refine WP.cond rfl (fun hc => ?_) (fun hc => ?_)
              · refine WP.regionS ?_
                refine RL.r (mvL rfl) rfl ?_
                refine RL.r (mvI rfl) rfl ?_
                have hj2 : j < l2.length := by omega
                have hl2 := hl2 (List.ne_nil_of_length_pos (by omega))
                obtain ⟨q2, hq2⟩ := hl2.isAddr (by decide) hj2
                subst hq2
                refine RL.r (ix rfl rfl rfl hj2) rfl ?_
                refine RL.m (ld_e0 rfl hl2 H rfl hj2 rfl) rfl ?_
                refine RL.r (and16 rfl rfl) rfl ?_
                refine RL.r (mvL rfl) rfl ?_
                refine RL.r (len_sl rfl) rfl ?_
                refine RL.r (rem rfl rfl (by omega)) rfl ?_
                refine RL.r (asgI rfl) rfl ?_
                refine RL.nil ?_
                refine WP.seq ?_
                refine WP.any ?_
                intro w15 hx; replace H := H.ext hx; replace hb6 := hb6.ext hx; replace hb14 := hb14.ext hx; replace hT := hT.ext hx; replace hL2 := hL2.ext hx
                refine AL.p 0 (by kernel_rfl) rfl (mvP rfl) rfl ?_
                refine AL.p 2 (by kernel_rfl) rfl (mvI rfl) rfl ?_
                refine AL.p 3 (by kernel_rfl) rfl (mvI rfl) rfl ?_
                refine AL.p 4 (by kernel_rfl) rfl (mvL rfl) rfl ?_
                refine AL.p 5 (by kernel_rfl) rfl (mvI rfl) rfl ?_
                obtain ⟨kk, hkd⟩ : ∃ kk, kk = and16v l2[j] % L2.length := ⟨_, rfl⟩
                have hkl : kk < L2.length := by rw [hkd]; exact Nat.mod_lt _ (by omega)
                have hJn : ((and16v l2[j] : Nat) : Int) % ((L2.length : Nat) : Int) = (kk : Int) := by rw [hkd]; exact (Int.natCast_emod _ _).symm
                obtain ⟨q3, hq3⟩ := hL2.sl.isAddr (by decide) hkl
                subst hq3
                refine AL.p 6 (by kernel_rfl) rfl (ix rfl rfl hJn hkl) rfl ?_
                refine AL.p 7 (by kernel_rfl) rfl (fa_el hL2.sl.1 rfl) rfl ?_
                refine AL.p 9 (by kernel_rfl) rfl (mvL rfl) rfl ?_
                refine AL.p 10 (by kernel_rfl) rfl (mvI rfl) rfl ?_
                refine AL.p 11 (by kernel_rfl) rfl (ix rfl rfl hJn hkl) rfl ?_
                refine AL.p 12 (by kernel_rfl) rfl (fa_el hL2.sl.1 rfl) rfl ?_
                refine AL.m 8 (by kernel_rfl) rfl (ld_el rfl hL2.sl (Ext.refl _) rfl hkl rfl) rfl ?_
                refine AL.m 13 (by kernel_rfl) rfl (ld_el rfl hL2.sl (Ext.refl _) rfl hkl rfl) rfl ?_
                -- call stagecoach/stagecoachlaw08.of (tmp 109) (tmp 110) (tmp 115) (tmp 120)
                have hck := hO2.ch kk hkl
                have hOf : ∀ w', Ct Try.prog 19 #[.int .i64 1, .int .i64 0, .int .i64 (L2[kk].seq), .int .i64 (L2[kk].n)] w' fun v w'' => (∃ (ra : Option Addr) (rc : Nat) (recs : List Rec), v = .agg (Lies.enc (⟨1, 0, L2[kk].seq, ra, rc, recs⟩ : Bat)).toArray ∧ recs.length = (L2[kk].n).toNat) ∧ Ext w' w'' := fun w' => pOf w' 1 0 _ _ (by omega)
                refine AL.x 14 (by kernel_rfl) rfl rfl (fun w' hw' => hOf w') ?_
                refine AX.m 1 (by kernel_rfl) rfl rfl (ldS_box rfl hb6 (Nat.le_of_ble_eq_true rfl) rfl) rfl ?_
                refine AX.o (by kernel_rfl) rfl ?_
                rintro v w16 ⟨⟨ra, rc, recs, rfl, hrl⟩, hx⟩
                replace H := H.ext hx; replace hb6 := hb6.ext hx; replace hb14 := hb14.ext hx; replace hT := hT.ext hx; replace hL2 := hL2.ext hx
                refine AL.o 15 (by kernel_rfl) rfl ?_
                -- call (*stagecoach/dedup.Table).Ask (tmp 107) (tmp 108) (tmp 121)
                refine RL.call (pAskS _ _ it _ D2 hT _ _ hO2.ok (by omega) pO 1 0 L2[kk].seq ra rc recs hrl) rfl rfl ?_
                rintro v w17 ⟨⟨r7, t7, e7, ha7, rfl⟩, hx⟩
                replace H := H.ext hx; replace hb6 := hb6.ext hx; replace hb14 := hb14.ext hx; replace hT := hT.ext hx; replace hL2 := hL2.ext hx
                refine RL.nil ?_
                refine AL.p 16 (by kernel_rfl) rfl (mvU rfl) rfl ?_
                refine AL.p 17 (by kernel_rfl) rfl (ex0 rfl) rfl ?_
                refine AL.p 18 (by kernel_rfl) rfl (ex1 rfl) rfl ?_
                refine AL.p 19 (by kernel_rfl) rfl (ex2 rfl) rfl ?_
                refine AL.p 20 (by kernel_rfl) rfl (asgI rfl) rfl ?_
                refine AL.p 21 (by kernel_rfl) rfl (asgB rfl) rfl ?_
                refine AL.p 22 (by kernel_rfl) rfl (asgI rfl) rfl ?_
                refine AL.nil (by kernel_rfl) ?_
                refine WP.regionS ?_
                refine RL.r (mvL rfl) rfl ?_
                refine RL.r (len_sl rfl) rfl ?_
                refine RL.r (mvI rfl) rfl ?_
                refine RL.r (sub rfl rfl (by omega)) rfl ?_
                refine RL.r (gtr rfl rfl) rfl ?_
                refine RL.r (asgB rfl) rfl ?_
                refine RL.nil ?_
                refine WP.seq (WP.quiet ?_)
                refine QL.r (mvB rfl) rfl ?_
                refine QL.r (mvB rfl) rfl ?_
                refine QL.gg (gwT rfl rfl) (fun hg => (mvB rfl).does _) rfl ?_
                refine QL.gg (gwT rfl rfl) (fun hg => (mvv (gs hg rfl)).does _) rfl ?_
                refine QL.gg (gwTF rfl rfl) (fun hg => (mvI rfl).does _) rfl ?_
                refine QL.gg (gwTF rfl rfl) (fun hg => (neq (gs hg rfl) rfl).does _) rfl ?_
                refine QL.gg (gwT rfl rfl) (fun hg => (pickOr (gs hg rfl) (fun hn => gs ⟨hg, hn⟩ rfl)).does _) rfl ?_
                refine QL.r (pickAnd rfl (fun hn => gs hn rfl)) rfl ?_
                refine QL.r (mvB rfl) rfl ?_
                refine QL.gg (gwF rfl rfl) (fun hg => (mvB rfl).does _) rfl ?_
                first | refine QL.gg (gwF rfl rfl) (fun hg => (notD (gs hg rfl)).does _) rfl ?_ | refine QL.gg (gwF rfl rfl) (fun hg => (not_ (gs hg rfl)).does _) rfl ?_
                refine QL.gg (gwF rfl rfl) (fun hg => (mvv (gs hg rfl)).does _) rfl ?_
                refine QL.gg (gwTT rfl rfl) (fun hg => (mvB rfl).does _) rfl ?_
                first | refine QL.gg (gwTT rfl rfl) (fun hg => (notD (gs hg rfl)).does _) rfl ?_ | refine QL.gg (gwTT rfl rfl) (fun hg => (not_ (gs hg rfl)).does _) rfl ?_
                refine QL.gg (gwTT rfl rfl) (fun hg => (mvv (gs hg rfl)).does _) rfl ?_
                refine QL.gg (gwTF rfl rfl) (fun hg => (mvI rfl).does _) rfl ?_
                refine QL.gg (gwTF rfl rfl) (fun hg => (mvL rfl).does _) rfl ?_
                refine QL.gg (gwTF rfl rfl) (fun hg => (mvI rfl).does _) rfl ?_
                refine QL.gg (gwTF rfl rfl) (fun hg => (ix (gs hg rfl) (gs hg rfl) hJn hkl).does _) rfl ?_
                refine QL.gg (gwTF rfl rfl) (fun hg => (fa_el hL2.sl.1 (gs hg rfl)).does _) rfl ?_
                refine QL.gg (gwTF rfl rfl) (fun hg => ld_el (gs hg rfl) hL2.sl (Ext.refl _) rfl hkl rfl) rfl ?_
                refine QL.gg (gwTF rfl rfl) (fun hg => (neq (gs hg rfl) (gs hg rfl)).does _) rfl ?_
                refine QL.gg (gwTT rfl rfl) (fun hg => (pickOr (gs hg rfl) (fun hn => gs ⟨hg, hn⟩ rfl)).does _) rfl ?_
                refine QL.gg (gwTT rfl rfl) (fun hg => (mvv (gs hg rfl)).does _) rfl ?_
                refine QL.gg (gwTF rfl rfl) (fun hg => (mvI rfl).does _) rfl ?_
                refine QL.gg (gwTF rfl rfl) (fun hg => (neq (gs hg rfl) rfl).does _) rfl ?_
                refine QL.gg (gwTT rfl rfl) (fun hg => (pickOr (gs hg rfl) (fun hn => gs ⟨hg, hn⟩ rfl)).does _) rfl ?_
                refine QL.gg (gwF rfl rfl) (fun hg => (pickAnd (gs hg rfl) (fun hn => gs ⟨hg, hn⟩ rfl)).does _) rfl ?_
                refine QL.r (pickOr rfl (fun hn => gs hn rfl)) rfl ?_
                refine QL.nil ?_; intro w18 hx; replace H := H.ext hx; replace hb6 := hb6.ext hx; replace hb14 := hb14.ext hx; replace hT := hT.ext hx; replace hL2 := hL2.ext hx
                refine WP.cond rfl (fun hc => ?_) (fun hc => ?_)
                · refine WP.regionS ?_
                  refine RL.r (asgB rfl) rfl ?_
                  refine RL.nil ?_
                  refine WP.ret ?_
                  have hbad : False := by
                    rw [hJn] at hc
                    by_cases hlt : 5 < L2.length - kk
                    · have q := ha7.symm.trans (hO2.late hkl hlt _)
                      simp only [Prod.mk.injEq] at q
                      rcases hc with ⟨_, hc | hc⟩ | ⟨hc, _⟩
                      · rw [q.2.1] at hc; exact absurd hc (by decide)
                      · exact hc q.2.2
                      · omega
                    · have q := ha7.symm.trans (hO2.hit hkl (by omega))
                      simp only [Prod.mk.injEq] at q
                      rcases hc with ⟨hc, _⟩ | ⟨_, (hc | hc) | hc⟩
                      · omega
                      · exact hc q.2.1
                      · exact hc q.1
                      · exact hc q.2.2
                  refine fin1_ret rfl ⟨hbad.elim, H⟩
                · refine WP.skip ?_
                  refine WP.region ?_
                  refine RL.r (mvI rfl) rfl ?_
                  refine RL.r (add rfl rfl (by omega)) rfl ?_
                  refine RL.r (asgI rfl) rfl ?_
                  refine RL.nil ?_
                  refine ⟨k - 1, by omega, j + 1, _, _, _, _, _, by omega, Head.intro (by repeat (first | with_reducible exact AgreeOff.mix _ _ _ | refine AgreeOff.look rfl ?_ | refine AgreeOff.mixs rfl ?_)) ⟨intE hsn.symm, rfl, rfl, trivial⟩, H, hb6, hT, hL2, hA2, hO2⟩
              · refine WP.skip ?_
                refine WP.region ?_
                refine RL.r (mvI rfl) rfl ?_
                refine RL.r (add rfl rfl (by omega)) rfl ?_
                refine RL.r (asgI rfl) rfl ?_
                refine RL.nil ?_
                refine ⟨k - 1, by omega, j + 1, _, _, _, _, _, by omega, Head.intro (by repeat (first | with_reducible exact AgreeOff.mix _ _ _ | refine AgreeOff.look rfl ?_ | refine AgreeOff.mixs rfl ?_)) ⟨intE hsn.symm, rfl, rfl, trivial⟩, H, hb6, hT, hL2, hA2, hO2⟩
    · refine WP.exit ?_
      refine WP.regionS ?_
      -- call stagecoach/stagecoachlaw08.fixed 
      refine RL.call (lFixed _) rfl rfl ?_
      rintro _ w19 ⟨rfl, hx⟩
      replace H := H.ext hx; replace hb6 := hb6.ext hx; replace hT := hT.ext hx; replace hL := hL.ext hx
      refine RL.r (asgB rfl) rfl ?_
      refine RL.nil ?_
      refine WP.ret ?_
      refine fin1_ret rfl ⟨rfl, H⟩
end Go.Proofs.Ytbggmjnhfacjpaa
