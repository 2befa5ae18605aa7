/-
  GroupExpires: the plain law and the walk.
-/
import Derived.Test.YtlkpgeopcdhgjaaCut11
import Derived.Test.YtlkpgeopcdhgjaaModes11
import Derived.Test.YtlkpgeopcdhgjaaGens11
set_option linter.unusedVariables false
namespace Go.Proofs.Ytlkpgeopcdhgjaa
open Go Go.Eng Go.RowKit
theorem own_apart2 {B B' c c' : Nat} {w : World} {a a' : Option Addr} {l l' : List ByteArray} (h : Own B w 9 a c l) (h' : Own B' w 9 a' c' l') (hl : (c = 0 ∧ l' ≠ []) ∨ ∃ x r y r', l = x :: r ∧ l' = y :: r' ∧ x ≠ y) : ∀ k, inBlock a k → ¬ inBlock a' k := by
  rintro k ⟨p, hp, rfl⟩ ⟨p', hp', e⟩
  rcases h.cases with ⟨h1, _⟩ | ⟨g, cur, h1, _, hg, hlc, hsz, htk⟩
  · rw [h1] at hp; cases hp
  rcases h'.cases with ⟨h1', _⟩ | ⟨g', cur', h1', _, hg', hlc', hsz', htk'⟩
  · rw [h1'] at hp'; cases hp'
  rw [h1] at hp; rw [h1'] at hp'
  cases hp; cases hp'
  simp only at e
  subst e
  rw [hg] at hg'
  have hcur : cur = cur' := by
    injection hg' with h; injection h
  subst hcur
  rcases hl with ⟨rfl, hne⟩ | ⟨x, r, y, r', rfl, rfl, hne⟩
  · rw [hsz] at hsz'
    have hs1 : Lies.sz ByteArray = 1 := rfl
    rw [hs1] at hsz'
    exact hne (List.eq_nil_of_length_eq_zero (by omega))
  · have key : ∀ (z : ByteArray) (q : List ByteArray), cur.toList.take ((z :: q).length * Lies.sz ByteArray) = (z :: q).flatMap Lies.enc → cur.toList[0]? = some (.string z) := by
      intro z q hz
      have h0 : (cur.toList.take ((z :: q).length * Lies.sz ByteArray))[0]? = some (.string z) := by rw [hz]; rfl
      rw [List.getElem?_take_of_lt (by show 0 < (q.length + 1) * 1; omega)] at h0
      exact h0
    have k1 := key x r htk
    rw [key y r' htk'] at k1
    injection k1 with k1
    injection k1 with k1
    exact hne k1.symm
theorem Tg.owx {B B' i m c : Nat} {w w' : World} {G : Gs} {a : Option Addr} {l : List ByteArray} (h : Tg B w i m G) (ho : Own B' w 9 a c l) (hl : ∀ x ∈ G.S, x.topics = [tS]) (hc : c = 0 ∨ ∃ x r, l = x :: r ∧ x ≠ tS) (k : Upd (inBlock a) w w') : Tg B w' i m G :=
  let ⟨H, lb, c', h1, h2, h3, h4⟩ := h.map
  ⟨h.box.upd k (ho.box_apart h.box (by decide)), ⟨H, lb, c', h1.upd k (h1.nea ho), h2, h3, h4.upd k (fun x hx j hj hja => by
    have ht : x.topics = [tS] := hl x.st (by rw [← h3]; exact List.mem_map_of_mem hx)
    refine own_apart2 ho (h4 x hx) ?_ j hja hj
    rcases hc with hc | ⟨y, r, e, hne⟩
    · exact .inl ⟨hc, by rw [ht]; simp⟩
    · exact .inr ⟨y, r, tS, [], e, ht, hne⟩)⟩, h.ok⟩
theorem getD_at {α : Type} {l : List α} (z : α) {j : Nat} (h : j < l.length) : l.getD j z = l[j] := by rw [List.getD_eq_getElem?_getD, List.getElem?_eq_getElem h]; rfl
theorem tm_at {l : List Int} {j : Nat} (h : j < l.length) : 1 + ((andv 255 (l.getD j 0) : Nat) : Int) = 1 + ((andv 255 l[j] : Nat) : Int) := by rw [getD_at _ h]
def nm (i : Nat) : ByteArray := (nmC c8).getD i ByteArray.empty
def tm (l : List Int) (i : Nat) : Int := 1 + ((andv 255 (l.getD i 0) : Nat) : Int)
def sx (l : List Int) (i : Nat) : St := ⟨nm i, [tS], tm l i, 0⟩
def bx (l : List Int) (at_ : Int) (j i : Nat) : St := if i < j ∧ i % 2 = 0 then ⟨nm i, [tS], tm l i, at_⟩ else sx l i
def SL (l : List Int) (n : Nat) : List St := (List.range n).map (sx l)
def GB (l : List Int) (at_ : Int) (n j : Nat) : Gs := ⟨(n : Int), false, (List.range n).map (bx l at_ j)⟩
def lt (l : List Int) (at_ : Int) (j : Nat) : List ByteArray := ((List.range j).filter fun i => decide (i % 2 = 1 ∧ tm l i ≤ at_)).map nm
theorem nm_get {j : Nat} (h : j < (nmC c8).length) : (nmC c8)[j] = nm j := by unfold nm; exact (getD_at _ h).symm
theorem c8_len : (nmC c8).length = 8 := rfl
theorem nm_lt {i j : Nat} (h : i < j) (hj : j < 8) : slt (nm i) (nm j) := by
  have hp : (nmC c8).Pairwise slt := nmC_srt (by decide)
  have := List.pairwise_iff_getElem.1 hp i j (by rw [c8_len]; omega) (by rw [c8_len]; omega) h
  rwa [nm_get, nm_get] at this
theorem nm_ne {i j : Nat} (h : i ≠ j) (hi : i < 8) (hj : j < 8) : nm i ≠ nm j := fun e => by
  rcases Nat.lt_or_gt_of_ne h with h | h
  · have := nm_lt h hj; rw [e] at this; exact slt_irrefl _ this
  · have := nm_lt h hi; rw [e] at this; exact slt_irrefl _ this
theorem tm_b (l : List Int) (i : Nat) : 1 ≤ tm l i ∧ tm l i ≤ 256 := by
  have := andv_le 255 (by decide) (l.getD i 0)
  unfold tm
  omega
theorem nm_name {i : Nat} (h : i < 8) : nameB (nm i) ∧ nm i ≠ tS := by
  have hm : nm i ∈ nmC c8 := by rw [← nm_get (by rw [c8_len]; omega)]; exact List.getElem_mem _
  obtain ⟨c, hc, e⟩ := List.mem_map.1 hm
  rw [← e]
  refine ⟨one_name c ((show ∀ c ∈ c8, okb c = true by decide) c hc), fun h => ?_⟩
  have h2 : c = 116 := by
    have := congrArg (fun b : ByteArray => b.data.toList) h
    simpa using this
  subst h2
  exact absurd hc (by decide)
theorem sx_may (l : List Int) {i : Nat} (h : i < 8) : mayS (sx l i) := by
  have := tm_b l i
  refine ⟨(nm_name h).1, (show 1 ≤ [tS].length by decide), (show [tS].length ≤ 8 by decide), ?_, (show 1 ≤ tm l i by omega), (show numB (tm l i) by unfold numB; omega), (show numB 0 by decide)⟩
  intro i hi
  have : i = 0 := by simp [sx] at hi; omega
  subst this
  exact ⟨one_name 116 (by decide), fun h => absurd h (by decide)⟩
theorem SL_get (l : List Int) {n j : Nat} (h : j < (SL l n).length) : (SL l n)[j] = sx l j := by simp [SL]
theorem SL_len (l : List Int) (n : Nat) : (SL l n).length = n := by unfold SL; rw [List.length_map, List.length_range]
theorem SL_line (l : List Int) {n : Nat} (hn : n ≤ 8) : Line (SL l n) := by
  refine ⟨?_, ?_, by rw [SL_len]; exact hn⟩
  · refine List.pairwise_iff_getElem.2 fun i j hi hj hij => ?_
    rw [SL_get, SL_get]
    rw [SL_len] at hj
    exact nm_lt hij (by omega)
  · intro x hx
    obtain ⟨i, hi, rfl⟩ := List.mem_map.1 hx
    exact sx_may l (by have := List.mem_range.1 hi; omega)
theorem gj_GB (l : List Int) (at_ : Int) (n : Nat) : gj (SL l n) false n = GB l at_ n 0 := by
  unfold gj GB
  have e : (SL l n).take n = (List.range n).map (bx l at_ 0) := by
    rw [List.take_of_length_le (by rw [SL_len]; exact Nat.le_refl n)]
    refine List.map_congr_left fun i _ => ?_
    unfold bx
    rw [if_neg (by omega)]
  rw [e]
  simp
theorem GB_tops (l : List Int) (at_ : Int) (n j : Nat) : ∀ x ∈ (GB l at_ n j).S, x.topics = [tS] := by
  intro x hx
  obtain ⟨i, _, rfl⟩ := List.mem_map.1 hx
  unfold bx
  split <;> rfl
theorem bx_name (l : List Int) (at_ : Int) (j i : Nat) : (bx l at_ j i).name = nm i := by unfold bx; split <;> rfl
theorem GB_odd (l : List Int) (at_ : Int) (n : Nat) {j : Nat} (h : j % 2 = 1) : GB l at_ n (j + 1) = GB l at_ n j := by
  unfold GB
  congr 1
  refine List.map_congr_left fun i _ => ?_
  unfold bx
  by_cases hi : i < j ∧ i % 2 = 0
  · rw [if_pos hi, if_pos ⟨by omega, hi.2⟩]
  · rw [if_neg hi, if_neg (fun h2 => hi ⟨by omega, h2.2⟩)]
theorem GB_beat (l : List Int) {at_ : Int} (ha : numB at_) {n j : Nat} (hn : n ≤ 8) (hj : j < n) (h : j % 2 = 0) : beatE (GB l at_ n j) (nm j) (n : Int) at_ = 0 ∧ beatG (GB l at_ n j) (nm j) (n : Int) at_ = GB l at_ n (j + 1) := by
  have hE : beatE (GB l at_ n j) (nm j) (n : Int) at_ = 0 := by
    unfold beatE
    rw [if_neg (not_not_intro ha)]
    unfold fenceE
    rw [if_neg, if_neg (fun h => h rfl)]
    refine eGet_ne.2 ⟨bx l at_ j j, List.mem_map.2 ⟨j, List.mem_range.2 hj, rfl⟩, bx_name _ _ _ _⟩
  refine ⟨hE, ?_⟩
  unfold beatG
  rw [if_pos hE]
  unfold GB beatS
  simp only
  rw [List.map_map]
  congr 1
  refine List.map_congr_left fun i hi => ?_
  have hi := List.mem_range.1 hi
  show beat1 (nm j) at_ (bx l at_ j i) = bx l at_ (j + 1) i
  unfold beat1
  rw [bx_name]
  by_cases e : i = j
  · subst e
    rw [if_pos rfl]
    have h1 : bx l at_ i i = sx l i := by unfold bx; rw [if_neg (by omega)]
    have h2 : bx l at_ (i + 1) i = ⟨nm i, [tS], tm l i, at_⟩ := by unfold bx; rw [if_pos ⟨by omega, h⟩]
    rw [h1, h2]
    have hm : max (0 : Int) at_ = at_ := by unfold numB at ha; omega
    show (⟨nm i, [tS], tm l i, max 0 at_⟩ : St) = _
    rw [hm]
  · rw [if_neg (nm_ne e (by omega) (by omega))]
    unfold bx
    by_cases hi2 : i < j ∧ i % 2 = 0
    · rw [if_pos hi2, if_pos ⟨by omega, hi2.2⟩]
    · rw [if_neg hi2, if_neg (fun h2 => hi2 ⟨by omega, h2.2⟩)]
theorem lt_yes {l : List Int} {at_ : Int} {j : Nat} (h : j % 2 = 1 ∧ tm l j ≤ at_) : lt l at_ (j + 1) = lt l at_ j ++ [nm j] := by
  unfold lt
  rw [List.range_succ, List.filter_append, List.map_append, List.filter_cons_of_pos (by simpa using h)]
  rfl
theorem lt_no {l : List Int} {at_ : Int} {j : Nat} (h : ¬ (j % 2 = 1 ∧ tm l j ≤ at_)) : lt l at_ (j + 1) = lt l at_ j := by
  unfold lt
  rw [List.range_succ, List.filter_append, List.map_append, List.filter_cons_of_neg (by simpa using h)]
  simp
theorem lt_len (l : List Int) (at_ : Int) (j : Nat) : (lt l at_ j).length ≤ j := by
  unfold lt
  rw [List.length_map]
  exact Nat.le_trans (List.length_filter_le _ _) (by rw [List.length_range]; exact Nat.le_refl _)
theorem late_bx (l : List Int) (at_ : Int) {n i : Nat} (hi : i < n) : late at_ (bx l at_ n i) = decide (i % 2 = 1 ∧ tm l i ≤ at_) := by
  have := tm_b l i
  unfold late bx
  by_cases h : i % 2 = 0
  · rw [if_pos ⟨hi, h⟩]
    simp only
    rw [decide_eq_false (by omega), decide_eq_false (by omega)]
  · rw [if_neg (fun h2 => h h2.2)]
    unfold sx
    simp only
    exact decide_eq_decide.2 ⟨fun h3 => ⟨by omega, by omega⟩, fun h3 => by omega⟩
theorem exp_lt (l : List Int) (at_ : Int) (n : Nat) : expL (GB l at_ n n) at_ = lt l at_ n := by
  unfold expL GB lt
  simp only
  rw [List.filter_map, List.map_map]
  have e : (St.name ∘ bx l at_ n) = nm := by funext i; exact bx_name _ _ _ _
  rw [e]
  congr 1
  refine List.filter_congr fun i hi => ?_
  exact late_bx l at_ (List.mem_range.1 hi)
theorem filter_two {α : Type} (p : α → Bool) (S : List α) : (S.filter p).length + (S.filter fun x => !p x).length = S.length := by
  induction S with
  | nil => rfl
  | cons x S ih =>
    cases h : p x with
    | true => rw [List.filter_cons_of_pos h, List.filter_cons_of_neg (by simp [h])]; simp only [List.length_cons]; omega
    | false => rw [List.filter_cons_of_neg (by simp [h]), List.filter_cons_of_pos (by simp [h])]; simp only [List.length_cons]; omega
theorem exp_len (l : List Int) (at_ : Int) (n : Nat) : (expG (GB l at_ n n) at_).S.length = n - (lt l at_ n).length ∧ (lt l at_ n).length ≤ n := by
  have h := filter_two (late at_) (GB l at_ n n).S
  have h1 : ((GB l at_ n n).S.filter (late at_)).length = (lt l at_ n).length := by
    rw [← exp_lt]; unfold expL; rw [List.length_map]
  have h2 : (GB l at_ n n).S.length = n := by unfold GB; simp
  rw [h1, h2] at h
  refine ⟨?_, by omega⟩
  show (expS (GB l at_ n n).S at_).length = _
  unfold expS
  omega
theorem exp_gen (l : List Int) (at_ : Int) {n : Nat} (hn : n ≤ 8) : (expG (GB l at_ n n) at_).gen = if 0 < (lt l at_ n).length then (n : Int) + 1 else n := by
  unfold expG
  rw [exp_lt]
  simp only
  split
  · show nextN (n : Int) = _
    unfold nextN; omega
  · rfl
theorem exp_again (G : Gs) (now : Int) : expL (expG G now) now = [] := by
  unfold expL expG expS
  simp only
  rw [List.filter_filter, List.map_eq_nil_iff, List.filter_eq_nil_iff]
  intro a _
  cases late now a <;> simp
/-- what is late is not in the first block -/
def ltB (a : Option Addr) (c i19 : Nat) (l : List ByteArray) : Prop := (∀ b, inBlock a b → i19 < b) ∧ (c = 0 ∨ ∃ x r, l = x :: r ∧ x ≠ tS)
theorem lt_ne (l : List Int) (at_ : Int) {j : Nat} (hj : j ≤ 8) {x : ByteArray} (h : x ∈ lt l at_ j) : x ≠ tS := by
  obtain ⟨i, hi, rfl⟩ := List.mem_map.1 h
  have := List.mem_range.1 (List.mem_filter.1 hi).1
  exact (nm_name (by omega)).2
theorem ltB_s {l : List Int} {at_ : Int} {j c' c i19 : Nat} {a a' : Option Addr} {w : World} {T : List ByteArray} {x : ByteArray} (h : ltB a c i19 T) (hf : Fr w a a') (hw : i19 < w.heap.size) (hj : j < 8) (hT : T = lt l at_ j) (hx : x = nm j) : ltB a' c' i19 (T ++ [x]) := by
  subst hT hx
  refine ⟨fun b hb => ?_, .inr ?_⟩
  · rcases hf b hb with hb | rfl
    · exact h.1 b hb
    · exact hw
  · cases e : lt l at_ j with
    | nil => exact ⟨nm j, [], rfl, (nm_name hj).2⟩
    | cons x r => exact ⟨x, r ++ [nm j], rfl, lt_ne l at_ (j := j) (by omega) (by rw [e]; exact List.mem_cons_self)⟩
set_option maxRecDepth 20000 in
set_option maxHeartbeats 1600000 in
theorem lExpires (w0 : World) (a : Option Addr) (c : Nat) (l : List Int) (now : Int) (hl : SlI w0 a l) :
    Ct Try.prog 8 #[.slice a l.length c, .int .i64 now] w0 fun v w' => v = .bool true ∧ Ext w0 w' := by
  refine Ct.intro1 Try.func8 Try.ntmps8 rfl rfl (by decide) rfl ?_
  have H : Ext w0 w0 := Ext.refl w0
  have ha16 := and16v_le now
  have hna : numB ((and16v now : Nat) : Int) := ⟨by omega, by omega⟩
  refine WP.regionS ?_
  refine RL.r (asgB rfl) rfl ?_
  refine RL.nil ?_
  refine WP.regionS ?_
  -- call stagecoach/group.New 
  refine RL.call (gNew _) rfl rfl ?_
  rintro v w1 ⟨⟨i, m, rfl, hT⟩, hx⟩
  replace H := H.ext hx
  refine RL.buildSlice w0.heap.size H.size rfl rfl rfl rfl rfl ?_
  intro w2 i19 hi19 hx hb19
  replace H := H.ext hx; replace hT := hT.ext hx; clear hx
  have hl19 := hb19.lt
  refine RL.r (asgP rfl) rfl ?_
  refine RL.r (asgL rfl) rfl ?_
  refine RL.nil ?_
  refine WP.seq ?_
  refine WP.regionS ?_
  refine RL.r (mvP rfl) rfl ?_
  refine RL.r (peqn rfl rfl) rfl ?_
  refine RL.nil ?_
  refine WP.cond rfl (fun hc => ?_) (fun hc => ?_)
  · refine WP.regionS ?_
    refine RL.r (asgB rfl) rfl ?_
    refine RL.nil ?_
    refine WP.ret ?_
    refine fin1_ret rfl ⟨absurd hc (by simp), H⟩
  · refine WP.skip ?_
    refine WP.regionS ?_
    refine RL.r (mvL rfl) rfl ?_
    refine RL.r (len_sl rfl) rfl ?_
    refine RL.r (min_i rfl rfl) rfl ?_
    refine RL.build0 (α := ByteArray) w0.heap.size H.size rfl ?_
    intro w3 i25 hi25 hx hb25
    replace H := H.ext hx; replace hb19 := hb19.ext hx; replace hT := hT.ext hx; clear hx
    have hL := hb25
    have hi19_25 : ∀ b, inBlock (some (⟨i25, 0, none⟩ : Addr)) b → i19 < b := by rintro b ⟨q, hq, rfl⟩; cases hq; show i19 < i25; omega
    refine RL.r (asgI rfl) rfl ?_
    refine RL.r (asgL rfl) rfl ?_
    refine RL.nil ?_
    refine WP.regionS ?_
    refine RL.r (mvI rfl) rfl ?_
    refine RL.r (and16 rfl rfl) rfl ?_
    refine RL.r (asgI rfl) rfl ?_
    refine RL.nil ?_
    refine WP.seq ?_
    refine WP.regionS ?_
    refine RL.r (asgI rfl) rfl ?_
    refine RL.nil ?_
    refine WP.block ?_
    refine WP.loop (fun k e' w' => ∃ j : Nat,  j + k = min l.length 8 ∧ Head [4, 10, 11, 12, 13, 28, 29, 30, 31, 32, 33, 34, 35, 36, 37, 38, 39, 40, 41, 42, 43, 44, 45, 46, 47, 48, 49, 50, 51, 52] _ [(10, .int .i64 (j : Int))] e' ∧ Ext w0 w' ∧ Box w0.heap.size w' i19 9 ((nmC c8).flatMap Lies.enc) ∧ Tg w0.heap.size w' i m (gj (SL l (min l.length 8)) false j) ∧ Own w0.heap.size w' 9 (some ⟨i25, 0, none⟩) 0 ([] : List ByteArray)) (min l.length 8)
      ⟨0, by omega, Head.intro (AgreeOff.refl _ _) ⟨rfl, trivial⟩, H, hb19, hT, hL⟩ ?_
    clear H hb19 hT hL
    rintro k e w4 ⟨j, hjk, ⟨jk, rfl⟩, H, hb19, hT, hL⟩
    refine WP.seq ?_
    refine WP.regionS ?_
    refine RL.r (mvI rfl) rfl ?_
    refine RL.r (mvI rfl) rfl ?_
    refine RL.r (lss rfl rfl) rfl ?_
    refine RL.nil ?_
    refine WP.cond rfl (fun hc => ?_) (fun hc => ?_)
    · refine WP.skip ?_
      refine WP.seq ?_
      refine WP.block ?_
      refine WP.regionS ?_
      refine RL.r (mvL rfl) rfl ?_
      refine RL.r (mvI rfl) rfl ?_
      have hj : j < l.length := by omega
      have hj8 : j < (nmC c8).length := by rw [c8_len]; omega
      refine RL.r (ix rfl rfl rfl hj8) rfl ?_
      refine RL.m (ld_e0 rfl (Box.sl (l := nmC c8) hb19) (Ext.refl _) rfl hj8 rfl) rfl ?_
      -- call stagecoach/stagecoachlaw11.seat (tmp 36)
      refine RL.call (lSeat _ _) rfl rfl ?_
      rintro v w5 ⟨⟨s, rfl, hss, hsl⟩, hx⟩
      replace H := H.ext hx; replace hb19 := hb19.ext hx; replace hT := hT.ext hx; replace hL := hL.ext hx
      have H5 := Ext.refl w5
      refine RL.alloc w0.heap.size H.size rfl rfl ?_
      intro w6 i11 hi11 hx hb11
      have ne19_11 := hb19.ne hi11
      refine RL.storeS rfl hb11 rfl rfl rfl rfl ?_
      intro w7 hu hb11
      replace hx := hx.box hu (Nat.le_of_eq hi11.symm)
      replace H := H.ext hx; replace hb19 := hb19.ext hx; replace hT := hT.ext hx; replace hL := hL.ext hx; replace H5 := H5.ext hx; clear hx hu
      refine RL.nil ?_
      refine WP.regionS ?_
      refine RL.r (mvL rfl) rfl ?_
      refine RL.r (mvI rfl) rfl ?_
      have hl := hl (List.ne_nil_of_length_pos (by omega))
      obtain ⟨p, rfl⟩ := hl.isAddr (by decide) hj
      have hav := andv_le 255 (by decide) l[j]
      refine RL.r (ix rfl rfl rfl hj) rfl ?_
      refine RL.m (ld_e0 rfl hl H rfl hj rfl) rfl ?_
      refine RL.r (andk (K := 255) rfl rfl (by decide)) rfl ?_
      refine RL.r (add rfl rfl (by omega)) rfl ?_
      refine RL.r (fa_box rfl) rfl ?_
      have hb11_0 := hb11
      refine RL.store1 rfl hb11 rfl rfl rfl rfl ?_
      intro w8 hu hb11
      replace hT := hT.bx hb11_0 (by decide) (by decide) hu
      replace hL := ownbx hL hb11_0 (by decide) hu
      replace H5 := H5.box hu (by omega)
      replace H := H.box hu hb11.old; replace hb19 := hb19.upd hu ne19_11
      refine RL.nil ?_
      refine WP.regionS ?_
      refine RL.r (mvP rfl) rfl ?_
      refine RL.m (ldS_box rfl hb11 (Nat.le_of_ble_eq_true rfl) rfl) rfl ?_
      -- call (*stagecoach/group.Group).Join (tmp 46) (tmp 47) (const (bool false))
      have htm : tm l j = 1 + ((andv 255 l[j] : Nat) : Int) := tm_at hj
      obtain ⟨hE, hG⟩ := gj_join (SL_line l (Nat.min_le_right l.length 8)) false (j := j) (by rw [SL_len]; omega)
      have hs8 : Seat.st { s with timeout := 1 + ((andv 255 l[j] : Nat) : Int) } = (SL l (min l.length 8))[j]'(by rw [SL_len]; omega) := by
        rw [SL_get, ← htm]
        show (⟨s.st.name, s.st.topics, tm l j, s.st.seen⟩ : St) = _
        rw [hss, nm_get]
        rfl
      rw [← hs8] at hE hG
      refine RL.call (gJoin _ _ i m _ hT { s with timeout := 1 + ((andv 255 l[j] : Nat) : Int) } false (hsl.ext H5) (by show s.topics.length ≤ 100000; rw [show s.topics = [tS] from congrArg St.topics hss]; decide)) rfl rfl ?_
      rintro _ w9 ⟨⟨rfl, hT2⟩, hx⟩
      replace H := Ext.upd H hx (xg_old hT (Nat.le_refl _)); replace hb19 := box_xg hb19 hT (by decide) hx; replace hb11 := box_xg hb11 hT (by decide) hx; replace hL := own_xg hL hT (by decide) hx
      rw [hG] at hT2
      replace hT := hT2; clear hT2
      refine RL.r (mvU rfl) rfl ?_
      refine RL.r (ex0 rfl) rfl ?_
      refine RL.r (ex1 rfl) rfl ?_
      refine RL.r (asgI rfl) rfl ?_
      refine RL.r (asgI rfl) rfl ?_
      refine RL.nil ?_
      refine WP.regionS ?_
      refine RL.r (mvI rfl) rfl ?_
      refine RL.r (neq rfl rfl) rfl ?_
      refine RL.nil ?_
      refine WP.cond rfl (fun hc => ?_) (fun hc => ?_)
      · refine WP.regionS ?_
        refine RL.r (asgB rfl) rfl ?_
        refine RL.nil ?_
        refine WP.ret ?_
        refine fin1_ret rfl ⟨absurd hE hc, H⟩
      · refine WP.skip ?_
        refine WP.region ?_
        refine RL.r (mvI rfl) rfl ?_
        refine RL.r (add rfl rfl (by omega)) rfl ?_
        refine RL.r (asgI rfl) rfl ?_
        refine RL.nil ?_
        refine ⟨k - 1, by omega, j + 1, by omega, Head.intro (by repeat (first | with_reducible exact AgreeOff.mix _ _ _ | refine AgreeOff.look rfl ?_ | refine AgreeOff.mixs rfl ?_)) ⟨rfl, trivial⟩, H, hb19, hT, hL⟩
    · refine WP.exit ?_
      refine WP.seq ?_
      refine WP.regionS ?_
      refine RL.r (asgI rfl) rfl ?_
      refine RL.nil ?_
      refine WP.block ?_
      have hjn : j = min l.length 8 := by omega
      rw [hjn, gj_GB l ((and16v now : Nat) : Int)] at hT
      refine WP.loop (fun k1 e' w' => ∃ j1 : Nat, ∃ (a8 : Option Addr) (c8_ : Nat) (T8 : List ByteArray),  j1 + k1 = min l.length 8 ∧ Head [4, 8, 14, 53, 54, 55, 56, 57, 58, 59, 60, 61, 62, 63, 64, 65, 66, 67, 68, 69, 70, 71, 72, 73, 74, 75, 76, 77, 78, 79, 80, 81, 82, 83, 84, 85, 86, 87, 88, 89, 90, 91] _ [(8, .slice a8 T8.length c8_), (14, .int .i64 (j1 : Int))] e' ∧ Ext w0 w' ∧ Box w0.heap.size w' i19 9 ((nmC c8).flatMap Lies.enc) ∧ Tg w0.heap.size w' i m (GB l ((and16v now : Nat) : Int) (min l.length 8) j1) ∧ Own w0.heap.size w' 9 a8 c8_ T8 ∧ ltB a8 c8_ i19 T8 ∧ T8 = lt l ((and16v now : Nat) : Int) j1) (min l.length 8)
        ⟨0, _, _, [], by omega, Head.intro (AgreeOff.refl _ _) ⟨rfl, rfl, trivial⟩, H, hb19, hT, hL, ⟨hi19_25, .inl rfl⟩, rfl⟩ ?_
      clear H hb19 hT hL
      rintro k1 e w10 ⟨j1, a8, c8_, T8, hjk1, ⟨jk1, rfl⟩, H, hb19, hT, hL, hLB, hT8⟩
      have hT8l : T8.length ≤ 8 := by rw [hT8]; have := lt_len l ((and16v now : Nat) : Int) j1; omega
      refine WP.seq ?_
      refine WP.regionS ?_
      refine RL.r (mvI rfl) rfl ?_
      refine RL.r (mvI rfl) rfl ?_
      refine RL.r (lss rfl rfl) rfl ?_
      refine RL.nil ?_
      refine WP.cond rfl (fun hc => ?_) (fun hc => ?_)
      · refine WP.skip ?_
        refine WP.seq ?_
        refine WP.block ?_
        refine WP.seq ?_
        refine WP.regionS ?_
        refine RL.r (mvI rfl) rfl ?_
        refine RL.r (rem rfl rfl (by omega)) rfl ?_
        refine RL.r (eql rfl rfl) rfl ?_
        refine RL.part rfl rfl (fun hg => ?_) (fun hg => ?_)
        · refine RL.yes rfl rfl rfl ?_
          refine RL.r (mvP rfl) rfl ?_
          refine RL.yes rfl rfl rfl ?_
          refine RL.r (mvL rfl) rfl ?_
          refine RL.yes rfl rfl rfl ?_
          refine RL.r (mvI rfl) rfl ?_
          refine RL.yes rfl rfl rfl ?_
          have hj1l : j1 < (nmC c8).length := by rw [c8_len]; omega
          refine RL.r (ix rfl rfl rfl hj1l) rfl ?_
          refine RL.yes rfl rfl rfl ?_
          refine RL.m (ld_e0 rfl (Box.sl (l := nmC c8) hb19) (Ext.refl _) rfl hj1l rfl) rfl ?_
          refine RL.yes rfl rfl rfl ?_
          refine RL.r (mvI rfl) rfl ?_
          refine RL.yes rfl rfl rfl ?_
          refine RL.r (mvI rfl) rfl ?_
          refine RL.yes rfl rfl rfl ?_
          -- call (*stagecoach/group.Group).Beat (tmp 62) (tmp 66) (tmp 67) (tmp 68)
          have hj2 : j1 % 2 = 0 := by omega
          obtain ⟨hE2, hG2⟩ := GB_beat l hna (n := min l.length 8) (j := j1) (by omega) (by omega) hj2
          have hcl : ((min (l.length : Int) 8)) = ((min l.length 8 : Nat) : Int) := by omega
          refine RL.call ((by rw [nm_get]; have h := gBeat _ _ i m _ hT (nm j1) ((min l.length 8 : Nat) : Int) ((and16v now : Nat) : Int); rw [hcl]; exact h)) rfl rfl ?_
          rintro _ w11 ⟨⟨rfl, hT2⟩, hx⟩
          replace H := Ext.upd H hx (xg_old hT (Nat.le_refl _)); replace hb19 := box_xg hb19 hT (by decide) hx; replace hL := own_xg hL hT (by decide) hx
          rw [hG2] at hT2
          replace hT := hT2; clear hT2
          refine RL.yes rfl rfl rfl ?_
          refine RL.r (neq rfl rfl) rfl ?_
          refine RL.r (pickT rfl) rfl ?_
          refine RL.nil ?_
          refine WP.cond rfl (fun hc => ?_) (fun hc => ?_)
          · refine WP.regionS ?_
            refine RL.r (asgB rfl) rfl ?_
            refine RL.nil ?_
            refine WP.ret ?_
            refine fin1_ret rfl ⟨absurd hE2 hc, H⟩
          · refine WP.skip ?_
            refine WP.seq (WP.quiet ?_)
            refine QL.r (mvI rfl) rfl ?_
            refine QL.r (rem rfl rfl (by omega)) rfl ?_
            refine QL.r (eql rfl rfl) rfl ?_
            refine QL.r (mvB rfl) rfl ?_
            refine QL.gg (gwT rfl rfl) (fun hg => (mvL rfl).does _) rfl ?_
            refine QL.gg (gwT rfl rfl) (fun hg => (mvI rfl).does _) rfl ?_
            have hj1t : j1 < l.length := by omega
            have hl := hl (List.ne_nil_of_length_pos (by omega))
            obtain ⟨p, rfl⟩ := hl.isAddr (by decide) hj1t
            have hav := andv_le 255 (by decide) l[j1]
            have htm : tm l j1 = 1 + ((andv 255 l[j1] : Nat) : Int) := tm_at hj1t
            refine QL.gg (gwT rfl rfl) (fun hg => (ix (gs hg rfl) (gs hg rfl) rfl hj1t).does _) rfl ?_
            refine QL.gg (gwT rfl rfl) (fun hg => ld_e0 (gs hg rfl) hl H rfl hj1t rfl) rfl ?_
            refine QL.gg (gwT rfl rfl) (fun hg => (andk (K := 255) (gs hg rfl) rfl (by decide)).does _) rfl ?_
            refine QL.gg (gwT rfl rfl) (fun hg => (add rfl (gs hg rfl) (by omega)).does _) rfl ?_
            refine QL.gg (gwT rfl rfl) (fun hg => (mvI rfl).does _) rfl ?_
            refine QL.gg (gwT rfl rfl) (fun hg => (leq (gs hg rfl) (gs hg rfl)).does _) rfl ?_
            refine QL.r (pickAnd rfl (fun hn => gs hn rfl)) rfl ?_
            refine QL.nil ?_; intro w12 hx; replace H := H.ext hx; replace hb19 := hb19.ext hx; replace hT := hT.ext hx; replace hL := hL.ext hx
            refine WP.cond rfl (fun hc => ?_) (fun hc => ?_)
            · refine WP.region ?_
              refine RL.r (mvL rfl) rfl ?_
              refine RL.r (mvL rfl) rfl ?_
              refine RL.r (mvI rfl) rfl ?_
              have hj1l : j1 < (nmC c8).length := by rw [c8_len]; omega
              refine RL.r (ix rfl rfl rfl hj1l) rfl ?_
              refine RL.m (ld_e0 rfl (Box.sl (l := nmC c8) hb19) (Ext.refl _) rfl hj1l rfl) rfl ?_
              refine RL.buildSlice w0.heap.size H.size rfl rfl rfl rfl rfl ?_
              intro w13 i90 hi90 hx hb90
              replace H := H.ext hx; replace hb19 := hb19.ext hx; replace hT := hT.ext hx; replace hL := hL.ext hx; clear hx
              refine RL.appendS rfl hL H.size rfl (show Sl _ _ [(nmC c8)[j1]] from Box.sl1 hb90) rfl rfl (by decide) rfl cell1 (by omega) (by simp only [maxLen]; omega) rfl ?_
              intro w14 a91 c91 hu hb91 hfr91
              have h19l := hb19.lt
              replace H := Ext.own H hL hu
              replace hT := hT.owx hL (GB_tops _ _ _ _) hLB.2 hu
              replace hb19 := hb19.upd hu (fun h => by have := hLB.1 _ h; omega)
              refine RL.r (asgL rfl) rfl ?_
              refine RL.nil ?_
              refine WP.region ?_
              refine RL.r (mvI rfl) rfl ?_
              refine RL.r (add rfl rfl (by omega)) rfl ?_
              refine RL.r (asgI rfl) rfl ?_
              refine RL.nil ?_
              refine ⟨k1 - 1, by omega, j1 + 1, _, _, _, by omega, Head.intro (by repeat (first | with_reducible exact AgreeOff.mix _ _ _ | refine AgreeOff.look rfl ?_ | refine AgreeOff.mixs rfl ?_)) ⟨rfl, rfl, trivial⟩, H, hb19, absurd hc.1 (by omega)⟩
            · refine WP.skip ?_
              refine WP.region ?_
              refine RL.r (mvI rfl) rfl ?_
              refine RL.r (add rfl rfl (by omega)) rfl ?_
              refine RL.r (asgI rfl) rfl ?_
              refine RL.nil ?_
              refine ⟨k1 - 1, by omega, j1 + 1, _, _, _, by omega, Head.intro (by repeat (first | with_reducible exact AgreeOff.mix _ _ _ | refine AgreeOff.look rfl ?_ | refine AgreeOff.mixs rfl ?_)) ⟨rfl, rfl, trivial⟩, H, hb19, hT, hL, hLB, by rw [hT8]; exact (lt_no (fun h => by omega)).symm⟩
        · refine RL.no rfl rfl rfl rfl ?_
          refine RL.no rfl rfl rfl rfl ?_
          refine RL.no rfl rfl rfl rfl ?_
          refine RL.no rfl rfl rfl rfl ?_
          refine RL.no rfl rfl rfl rfl ?_
          refine RL.no rfl rfl rfl rfl ?_
          refine RL.no rfl rfl rfl rfl ?_
          refine RL.no rfl rfl rfl rfl ?_
          refine RL.no rfl rfl rfl rfl ?_
          refine RL.r (pickF rfl) rfl ?_
          refine RL.nil ?_
          refine WP.condF rfl rfl ?_
          refine WP.skip ?_
          refine WP.seq (WP.quiet ?_)
          refine QL.r (mvI rfl) rfl ?_
          refine QL.r (rem rfl rfl (by omega)) rfl ?_
          refine QL.r (eql rfl rfl) rfl ?_
          refine QL.r (mvB rfl) rfl ?_
          refine QL.gg (gwT rfl rfl) (fun hg => (mvL rfl).does _) rfl ?_
          refine QL.gg (gwT rfl rfl) (fun hg => (mvI rfl).does _) rfl ?_
          have hj1t : j1 < l.length := by omega
          have hl := hl (List.ne_nil_of_length_pos (by omega))
          obtain ⟨p, rfl⟩ := hl.isAddr (by decide) hj1t
          have hav := andv_le 255 (by decide) l[j1]
          have htm : tm l j1 = 1 + ((andv 255 l[j1] : Nat) : Int) := tm_at hj1t
          refine QL.gg (gwT rfl rfl) (fun hg => (ix (gs hg rfl) (gs hg rfl) rfl hj1t).does _) rfl ?_
          refine QL.gg (gwT rfl rfl) (fun hg => ld_e0 (gs hg rfl) hl H rfl hj1t rfl) rfl ?_
          refine QL.gg (gwT rfl rfl) (fun hg => (andk (K := 255) (gs hg rfl) rfl (by decide)).does _) rfl ?_
          refine QL.gg (gwT rfl rfl) (fun hg => (add rfl (gs hg rfl) (by omega)).does _) rfl ?_
          refine QL.gg (gwT rfl rfl) (fun hg => (mvI rfl).does _) rfl ?_
          refine QL.gg (gwT rfl rfl) (fun hg => (leq (gs hg rfl) (gs hg rfl)).does _) rfl ?_
          refine QL.r (pickAnd rfl (fun hn => gs hn rfl)) rfl ?_
          refine QL.nil ?_; intro w15 hx; replace H := H.ext hx; replace hb19 := hb19.ext hx; replace hT := hT.ext hx; replace hL := hL.ext hx
          refine WP.cond rfl (fun hc => ?_) (fun hc => ?_)
          · refine WP.region ?_
            refine RL.r (mvL rfl) rfl ?_
            refine RL.r (mvL rfl) rfl ?_
            refine RL.r (mvI rfl) rfl ?_
            have hj1l : j1 < (nmC c8).length := by rw [c8_len]; omega
            refine RL.r (ix rfl rfl rfl hj1l) rfl ?_
            refine RL.m (ld_e0 rfl (Box.sl (l := nmC c8) hb19) (Ext.refl _) rfl hj1l rfl) rfl ?_
            refine RL.buildSlice w0.heap.size H.size rfl rfl rfl rfl rfl ?_
            intro w16 i90 hi90 hx hb90
            replace H := H.ext hx; replace hb19 := hb19.ext hx; replace hT := hT.ext hx; replace hL := hL.ext hx; clear hx
            refine RL.appendS rfl hL H.size rfl (show Sl _ _ [(nmC c8)[j1]] from Box.sl1 hb90) rfl rfl (by decide) rfl cell1 (by omega) (by simp only [maxLen]; omega) rfl ?_
            intro w17 a91 c91 hu hb91 hfr91
            have h19l := hb19.lt
            replace H := Ext.own H hL hu
            replace hT := hT.owx hL (GB_tops _ _ _ _) hLB.2 hu
            replace hb19 := hb19.upd hu (fun h => by have := hLB.1 _ h; omega)
            refine RL.r (asgL rfl) rfl ?_
            refine RL.nil ?_
            refine WP.region ?_
            refine RL.r (mvI rfl) rfl ?_
            refine RL.r (add rfl rfl (by omega)) rfl ?_
            refine RL.r (asgI rfl) rfl ?_
            refine RL.nil ?_
            refine ⟨k1 - 1, by omega, j1 + 1, _, _, _, by omega, Head.intro (by repeat (first | with_reducible exact AgreeOff.mix _ _ _ | refine AgreeOff.look rfl ?_ | refine AgreeOff.mixs rfl ?_)) ⟨rfl, rfl, trivial⟩, H, hb19, (by rw [GB_odd l _ _ (by omega)]; exact hT), hb91, ltB_s hLB hfr91 h19l (by omega) hT8 (nm_get hj1l), by rw [hT8, nm_get]; exact (lt_yes ⟨by omega, by rw [htm]; exact hc.2⟩).symm⟩
          · refine WP.skip ?_
            refine WP.region ?_
            refine RL.r (mvI rfl) rfl ?_
            refine RL.r (add rfl rfl (by omega)) rfl ?_
            refine RL.r (asgI rfl) rfl ?_
            refine RL.nil ?_
            refine ⟨k1 - 1, by omega, j1 + 1, _, _, _, by omega, Head.intro (by repeat (first | with_reducible exact AgreeOff.mix _ _ _ | refine AgreeOff.look rfl ?_ | refine AgreeOff.mixs rfl ?_)) ⟨rfl, rfl, trivial⟩, H, hb19, (by rw [GB_odd l _ _ (by omega)]; exact hT), hL, hLB, by rw [hT8]; exact (lt_no (fun h => hc ⟨by omega, by rw [← htm]; exact h.2⟩)).symm⟩
      · refine WP.exit ?_
        refine WP.regionS ?_
        refine RL.r (mvP rfl) rfl ?_
        refine RL.r (mvI rfl) rfl ?_
        -- call (*stagecoach/group.Group).Expire (tmp 92) (tmp 93)
        have hjn1 : j1 = min l.length 8 := by omega
        rw [hjn1] at hT hT8
        refine RL.call (gExpire _ _ i m _ hT ((and16v now : Nat) : Int)) rfl rfl ?_
        rintro v w18 ⟨⟨⟨a15, c15, rfl, hE⟩, hT2⟩, hx⟩
        replace H := Ext.upd H hx (xg_old hT (Nat.le_refl _)); replace hb19 := box_xg hb19 hT (by decide) hx; replace hL := own_xg hL hT (by decide) hx
        replace hT := hT2; clear hT2
        refine RL.r (asgL rfl) rfl ?_
        refine RL.nil ?_
        refine WP.regionS ?_
        refine RL.r (mvP rfl) rfl ?_
        -- call (*stagecoach/group.Group).Gen (tmp 96)
        refine RL.call (gGen _ _ i m _ hT) rfl rfl ?_
        rintro _ w19 ⟨rfl, hx⟩
        replace H := H.ext hx; replace hb19 := hb19.ext hx; replace hT := hT.ext hx; replace hL := hL.ext hx; replace hE := hE.ext hx
        refine RL.r (mvU rfl) rfl ?_
        refine RL.r (ex0 rfl) rfl ?_
        refine RL.r (ex1 rfl) rfl ?_
        refine RL.r (asgI rfl) rfl ?_
        refine RL.r (asgB rfl) rfl ?_
        refine RL.nil ?_
        refine WP.regionS ?_
        refine RL.r (mvL rfl) rfl ?_
        refine RL.r (mvL rfl) rfl ?_
        -- call stagecoach/stagecoachref04.Texts (tmp 100) (tmp 101)
        have hx8 : expL (GB l ((and16v now : Nat) : Int) (min l.length 8) (min l.length 8)) ((and16v now : Nat) : Int) = T8 := by rw [exp_lt, hT8]
        refine RL.call (rTexts _ _ _ _ _ _ _ hE.sl hL.sl (by rw [hx8]; omega)) rfl rfl ?_
        rintro _ w20 ⟨rfl, hx⟩
        replace H := H.ext hx; replace hb19 := hb19.ext hx; replace hT := hT.ext hx; replace hL := hL.ext hx; replace hE := hE.ext hx
        refine RL.part rfl rfl (fun hg => ?_) (fun hg => ?_)
        · refine RL.yes rfl rfl rfl ?_
          refine RL.r (mvP rfl) rfl ?_
          refine RL.yes rfl rfl rfl ?_
          -- call (*stagecoach/group.Group).Seats (tmp 104)
          refine RL.call (gSeats _ _ i m _ hT) rfl rfl ?_
          rintro v w21 ⟨⟨a21, c21, L, rfl, hL2, hLm, _, _⟩, hx⟩
          replace H := H.ext hx; replace hb19 := hb19.ext hx; replace hT := hT.ext hx; replace hL := hL.ext hx; replace hE := hE.ext hx
          have hLl : L.length = (expG (GB l ((and16v now : Nat) : Int) (min l.length 8) (min l.length 8)) ((and16v now : Nat) : Int)).S.length := by rw [← hLm, List.length_map]
          have hel := exp_len l ((and16v now : Nat) : Int) (min l.length 8)
          have heg := exp_gen l ((and16v now : Nat) : Int) (n := min l.length 8) (by omega)
          rw [← hT8] at hel heg
          refine RL.yes rfl rfl rfl ?_
          refine RL.r (len_sl rfl) rfl ?_
          refine RL.yes rfl rfl rfl ?_
          refine RL.r (mvI rfl) rfl ?_
          refine RL.yes rfl rfl rfl ?_
          refine RL.r (mvL rfl) rfl ?_
          refine RL.yes rfl rfl rfl ?_
          refine RL.r (len_sl rfl) rfl ?_
          refine RL.yes rfl rfl rfl ?_
          refine RL.r (sub rfl rfl (by omega)) rfl ?_
          refine RL.yes rfl rfl rfl ?_
          refine RL.r (eql rfl rfl) rfl ?_
          refine RL.r (pickT rfl) rfl ?_
          refine RL.part rfl rfl (fun hg => ?_) (fun hg => ?_)
          · refine RL.yes rfl rfl rfl ?_
            refine RL.r (mvI rfl) rfl ?_
            refine RL.yes rfl rfl rfl ?_
            refine RL.r (mvI rfl) rfl ?_
            refine RL.yes rfl rfl rfl ?_
            refine RL.r (eql rfl rfl) rfl ?_
            refine RL.yes rfl rfl rfl ?_
            refine RL.r (mvL rfl) rfl ?_
            refine RL.yes rfl rfl rfl ?_
            refine RL.r (len_sl rfl) rfl ?_
            refine RL.yes rfl rfl rfl ?_
            refine RL.r (eql rfl rfl) rfl ?_
            refine RL.yes rfl rfl rfl ?_
            refine RL.r (beql rfl rfl) rfl ?_
            refine RL.r (pickT rfl) rfl ?_
            refine RL.part rfl rfl (fun hg => ?_) (fun hg => ?_)
            · refine RL.yes rfl rfl rfl ?_
              refine RL.r (mvP rfl) rfl ?_
              refine RL.yes rfl rfl rfl ?_
              refine RL.r (mvI rfl) rfl ?_
              refine RL.yes rfl rfl rfl ?_
              -- call (*stagecoach/group.Group).Expire (tmp 123) (tmp 124)
              refine RL.call (gExpire _ _ i m _ hT ((and16v now : Nat) : Int)) rfl rfl ?_
              rintro v w22 ⟨⟨⟨a22, c22, rfl, _⟩, _⟩, hx⟩
              replace H := Ext.upd H hx (xg_old hT (Nat.le_refl _)); replace hb19 := box_xg hb19 hT (by decide) hx
              refine RL.yes rfl rfl rfl ?_
              refine RL.r (len_sl rfl) rfl ?_
              refine RL.yes rfl rfl rfl ?_
              refine RL.r (eql rfl rfl) rfl ?_
              refine RL.r (pickT rfl) rfl ?_
              refine RL.part rfl rfl (fun hg => ?_) (fun hg => ?_)
              · refine RL.yes rfl rfl rfl ?_
                -- call stagecoach/stagecoachlaw11.fixed 
                refine RL.call (lFixed _) rfl rfl ?_
                rintro _ w23 ⟨rfl, hx⟩
                replace H := H.ext hx; replace hb19 := hb19.ext hx
                refine RL.r (pickT rfl) rfl ?_
                refine RL.r (asgB rfl) rfl ?_
                refine RL.nil ?_
                refine WP.ret ?_
                refine fin1_ret rfl ⟨rfl, H⟩
              · refine RL.no rfl rfl rfl rfl ?_
                refine RL.r (pickF rfl) rfl ?_
                refine RL.r (asgB rfl) rfl ?_
                refine RL.nil ?_
                refine WP.ret ?_
                refine fin1_ret rfl ⟨absurd (by rw [exp_again]; rfl) hg, H⟩
            · refine RL.no rfl rfl rfl rfl ?_
              refine RL.no rfl rfl rfl rfl ?_
              refine RL.no rfl rfl rfl rfl ?_
              refine RL.no rfl rfl rfl rfl ?_
              refine RL.no rfl rfl rfl rfl ?_
              refine RL.r (pickF rfl) rfl ?_
              refine RL.r (mvB rfl) rfl ?_
              refine RL.no rfl rfl rfl rfl ?_
              refine RL.r (pickF rfl) rfl ?_
              refine RL.r (asgB rfl) rfl ?_
              refine RL.nil ?_
              refine WP.ret ?_
              refine fin1_ret rfl ⟨?_, H⟩
              exfalso
              revert hg
              rw [heg]
              split <;> intro hg <;> exact hg (decide_eq_decide.2 ⟨fun h => by omega, fun h => by omega⟩)
          · refine RL.no rfl rfl rfl rfl ?_
            refine RL.no rfl rfl rfl rfl ?_
            refine RL.no rfl rfl rfl rfl ?_
            refine RL.no rfl rfl rfl rfl ?_
            refine RL.no rfl rfl rfl rfl ?_
            refine RL.no rfl rfl rfl rfl ?_
            refine RL.no rfl rfl rfl rfl ?_
            refine RL.r (pickF rfl) rfl ?_
            refine RL.r (mvB rfl) rfl ?_
            refine RL.no rfl rfl rfl rfl ?_
            refine RL.no rfl rfl rfl rfl ?_
            refine RL.no rfl rfl rfl rfl ?_
            refine RL.no rfl rfl rfl rfl ?_
            refine RL.no rfl rfl rfl rfl ?_
            refine RL.r (pickF rfl) rfl ?_
            refine RL.r (mvB rfl) rfl ?_
            refine RL.no rfl rfl rfl rfl ?_
            refine RL.r (pickF rfl) rfl ?_
            refine RL.r (asgB rfl) rfl ?_
            refine RL.nil ?_
            refine WP.ret ?_
            refine fin1_ret rfl ⟨absurd (by omega) hg, H⟩
        · refine RL.no rfl rfl rfl rfl ?_
          refine RL.no rfl rfl rfl rfl ?_
          refine RL.no rfl rfl rfl rfl ?_
          refine RL.no rfl rfl rfl rfl ?_
          refine RL.no rfl rfl rfl rfl ?_
          refine RL.no rfl rfl rfl rfl ?_
          refine RL.no rfl rfl rfl rfl ?_
          refine RL.no rfl rfl rfl rfl ?_
          refine RL.r (pickF rfl) rfl ?_
          refine RL.r (mvB rfl) rfl ?_
          refine RL.no rfl rfl rfl rfl ?_
          refine RL.no rfl rfl rfl rfl ?_
          refine RL.no rfl rfl rfl rfl ?_
          refine RL.no rfl rfl rfl rfl ?_
          refine RL.no rfl rfl rfl rfl ?_
          refine RL.no rfl rfl rfl rfl ?_
          refine RL.no rfl rfl rfl rfl ?_
          refine RL.r (pickF rfl) rfl ?_
          refine RL.r (mvB rfl) rfl ?_
          refine RL.no rfl rfl rfl rfl ?_
          refine RL.no rfl rfl rfl rfl ?_
          refine RL.no rfl rfl rfl rfl ?_
          refine RL.no rfl rfl rfl rfl ?_
          refine RL.no rfl rfl rfl rfl ?_
          refine RL.r (pickF rfl) rfl ?_
          refine RL.r (mvB rfl) rfl ?_
          refine RL.no rfl rfl rfl rfl ?_
          refine RL.r (pickF rfl) rfl ?_
          refine RL.r (asgB rfl) rfl ?_
          refine RL.nil ?_
          refine WP.ret ?_
          refine fin1_ret rfl ⟨absurd hx8 hg, H⟩
end Go.Proofs.Ytlkpgeopcdhgjaa
