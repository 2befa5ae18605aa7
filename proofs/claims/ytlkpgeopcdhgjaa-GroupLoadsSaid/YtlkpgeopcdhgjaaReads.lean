/-
  Reads: walks and laws, written by gen/gen.py out of gen/thy/Reads.py.
-/
import Derived.Test.YtlkpgeopcdhgjaaCheck
set_option linter.unusedVariables false
namespace Go.Proofs.Ytlkpgeopcdhgjaa
open Go Go.Eng Go.RowKit
def _root_.Go.Eng.Mem.has (m : Mem) (t : ByteArray) : Prop := t ∈ m.topics
noncomputable instance (t : ByteArray) (l : List ByteArray) : Decidable (t ∈ l) := Classical.propDecidable _
noncomputable instance (m : Mem) (t : ByteArray) : Decidable (m.has t) := inferInstanceAs (Decidable (_ ∈ _))
theorem hdr {r : Rw Part} {a : Option Addr} (h : r.a = a) : (Lies.enc r)[0]? = some (.slice a r.l.length r.c) := by subst h; rfl
theorem nomem {α : Type} {l : List α} {t : α} (h : ∀ (i : Nat) (hi : i < l.length), ¬ l[i] = t) : ¬ t ∈ l := by
  intro hm
  obtain ⟨i, hi, e⟩ := List.getElem_of_mem hm
  exact h i hi e
theorem inmem {α : Type} {l : List α} {t : α} {i : Nat} (hi : i < l.length) (h : l[i] = t) : t ∈ l := h ▸ List.getElem_mem hi
theorem upto {Q : Nat → Prop} {j : Nat} (h : ∀ i, i < j → Q i) (hj : Q j) : ∀ i, i < j + 1 → Q i := by
  intro i hi
  by_cases hij : i < j
  · exact h i hij
  · obtain rfl : i = j := by omega
    exact hj
noncomputable def ahead (m : List Mem) (n : Nat) (t : ByteArray) : Nat := (m.take n).countP fun x => decide (x.has t)
theorem ahead_zero (m : List Mem) (t : ByteArray) : ahead m 0 t = 0 := by simp [ahead]
theorem ahead_le (m : List Mem) (n : Nat) (t : ByteArray) : ahead m n t ≤ n := by
  unfold ahead
  refine Nat.le_trans List.countP_le_length ?_
  rw [List.length_take]; omega
theorem ahead_yes {m : List Mem} {n : Nat} {t : ByteArray} (hn : n < m.length) (h : m[n].has t) : ahead m (n + 1) t = ahead m n t + 1 := by
  unfold ahead
  rw [List.take_succ_eq_append_getElem hn, List.countP_append]
  simp [h]
theorem ahead_no {m : List Mem} {n : Nat} {t : ByteArray} (hn : n < m.length) (h : ¬ m[n].has t) : ahead m (n + 1) t = ahead m n t := by
  unfold ahead
  rw [List.take_succ_eq_append_getElem hn, List.countP_append]
  simp [h]
instance eqs27 : EqS Try.prog 66 Part := eqs_pair (s0 := Part.topic) (n0 := Part.n) Try.underlying66 (by kernel_rfl) (by kernel_rfl) Try.underlying9 Try.underlying3 rfl rfl (by decide) (by decide) (fun x => rfl) (fun x y h1 h2 => by cases x; cases y; simp_all)
def whose (g : List (List Part)) (p : Part) : Int := match g.findIdx? (fun l => decide (p ∈ l)) with | some i => (i : Int) | none => -1
theorem whose_at {g : List (List Part)} {p : Part} {j : Nat} (hj : j < g.length) (h : p ∈ g[j]) (hb : ∀ (i : Nat) (hi : i < j), ¬ p ∈ (g[i]'(by omega))) : whose g p = (j : Int) := by
  unfold whose
  rw [(List.findIdx?_eq_some_iff_getElem).2 ⟨hj, by simpa using h, fun i hi => by simpa using hb i hi⟩]
theorem whose_no {g : List (List Part)} {p : Part} (hb : ∀ (i : Nat) (hi : i < g.length), ¬ p ∈ g[i]) : whose g p = -1 := by
  unfold whose
  rw [List.findIdx?_eq_none_iff.2]
  intro x hx
  obtain ⟨i, hi, rfl⟩ := List.getElem_of_mem hx
  simpa using hb i hi
abbrev rows (g : List (Rw Part)) : List (List Part) := g.map Rw.l
/-- rows of rows that are read -/
def Gr (w : World) (a : Option Addr) (g : List (Rw Part)) : Prop := Sl w a g ∧ ∀ r ∈ g, Sl w r.a r.l
theorem rWants' (w0 : World) (nm : ByteArray) (ta : Option Addr) (tc : Nat) (l : List ByteArray) (t : ByteArray) (hx0 : Sl w0 ta l) (hlen : l.length ≤ 1000) :
    Ct Try.prog 28 #[.agg [.string nm, .slice ta l.length tc].toArray, .string t] w0 fun v w' => v = .bool (decide (t ∈ l)) ∧ Ext w0 w' := by
  refine Ct.intro1 Try.func28 Try.ntmps28 rfl rfl (by decide) rfl ?_
  have H : Ext w0 w0 := Ext.refl w0
  refine WP.regionS ?_
  refine RL.boxS w0.heap.size H.size rfl rfl ?_
  intro w1 i2 hi2 hx hb2
  replace H := H.ext hx; clear hx
  refine RL.r (asgB rfl) rfl ?_
  refine RL.nil ?_
  refine WP.seq ?_
  refine WP.regionS ?_
  refine RL.r (asgI rfl) rfl ?_
  refine RL.nil ?_
  refine WP.block ?_
  refine WP.loop (fun k e' w' => ∃ j : Nat,  j + k = l.length ∧ Head [4, 5, 6, 7, 8, 9, 10, 11, 12, 13, 14, 15, 16, 17, 18, 19] _ [(5, .int .i64 (j : Int))] e' ∧ Ext w0 w' ∧ Box w0.heap.size w' i2 29 [.string nm, .slice ta l.length tc] ∧ ∀ (i : Nat) (h : i < l.length), i < j → ¬ l[i] = t) (l.length)
    ⟨0, by omega, Head.intro (AgreeOff.refl _ _) ⟨rfl, trivial⟩, H, hb2, fun i h hi => by omega⟩ ?_
  clear H hb2
  rintro k e w2 ⟨j, hjk, ⟨jk, rfl⟩, H, hb2, hok⟩
  refine WP.seq ?_
  refine WP.regionS ?_
  refine RL.r (mvI rfl) rfl ?_
  refine RL.r (fa_box rfl) rfl ?_
  refine RL.m (ld_box rfl hb2 rfl) rfl ?_
  refine RL.r (len_sl rfl) rfl ?_
  refine RL.r (lss rfl rfl) rfl ?_
  refine RL.nil ?_
  refine WP.cond rfl (fun hc => ?_) (fun hc => ?_)
  · refine WP.skip ?_
    refine WP.seq ?_
    refine WP.block ?_
    refine WP.regionS ?_
    refine RL.r (fa_box rfl) rfl ?_
    refine RL.m (ld_box rfl hb2 rfl) rfl ?_
    refine RL.r (mvI rfl) rfl ?_
    have hj : j < l.length := by omega
    obtain ⟨p, rfl⟩ := hx0.isAddr (by decide) hj
    refine RL.r (ix rfl rfl rfl (by omega)) rfl ?_
    refine RL.m (ld_e0 rfl hx0 H rfl (by omega) rfl) rfl ?_
    refine RL.r (mvS rfl) rfl ?_
    refine RL.r (seql rfl rfl) rfl ?_
    refine RL.nil ?_
    refine WP.cond rfl (fun hc => ?_) (fun hc => ?_)
    · refine WP.regionS ?_
      refine RL.r (asgB rfl) rfl ?_
      refine RL.nil ?_
      refine WP.ret ?_
      refine fin1_ret rfl ⟨congrArg Value.bool (bT (inmem hj hc)), H⟩
    · refine WP.skip ?_
      refine WP.region ?_
      refine RL.r (mvI rfl) rfl ?_
      refine RL.r (add rfl rfl (by omega)) rfl ?_
      refine RL.r (asgI rfl) rfl ?_
      refine RL.nil ?_
      refine ⟨k - 1, by omega, j + 1, by omega, Head.intro (by repeat (first | with_reducible exact AgreeOff.mix _ _ _ | refine AgreeOff.look rfl ?_ | refine AgreeOff.mixs rfl ?_)) ⟨rfl, trivial⟩, H, hb2, fun i h hi => ?_⟩
      by_cases hij : i < j
      · exact hok i h hij
      · obtain rfl : i = j := by omega
        exact hc
  · refine WP.exit ?_
    refine WP.regionS ?_
    refine RL.r (asgB rfl) rfl ?_
    refine RL.nil ?_
    refine WP.ret ?_
    refine fin1_ret rfl ⟨congrArg Value.bool (bF (nomem fun i h => hok i h (by omega))), H⟩
theorem rWants (w0 : World) (x : Mem) (t : ByteArray) (hx0 : Sl w0 x.ta x.topics) (hlen : x.topics.length ≤ 1000) :
    Ct Try.prog 28 #[.agg (Lies.enc x).toArray, .string t] w0 fun v w' => v = .bool (decide (x.has t)) ∧ Ext w0 w' := rWants' w0 x.name x.ta x.tc x.topics t hx0 hlen
theorem pIndexS (w0 : World) (a : Option Addr) (c : Nat) (l : List ByteArray) (t : ByteArray) (hl : Sl w0 a l) (hlen : l.length ≤ 1000) :
    Ct Try.prog 54 #[.slice a l.length c, .string t] w0 fun v w' => (∃ r : Int, v = .int .i64 r ∧ (0 ≤ r ↔ t ∈ l)) ∧ Ext w0 w' := by
  refine Ct.intro1 Try.func54 Try.ntmps54 rfl rfl (by decide) rfl ?_
  have H : Ext w0 w0 := Ext.refl w0
  refine WP.regionS ?_
  refine RL.r (asgI rfl) rfl ?_
  refine RL.nil ?_
  refine WP.seq ?_
  refine WP.regionS ?_
  refine RL.r (mvL rfl) rfl ?_
  refine RL.r (len_sl rfl) rfl ?_
  refine RL.r (mvI rfl) rfl ?_
  refine RL.nil ?_
  refine WP.block ?_
  refine WP.loop (fun k e' w' => ∃ j : Nat,  j + k = l.length ∧ Head [4, 5, 8, 9, 10, 11, 12, 13, 14, 15, 16, 17, 18] _ [(8, .int .i64 (j : Int))] e' ∧ Ext w0 w' ∧ ∀ (i : Nat) (h : i < l.length), i < j → ¬ l[i] = t) (l.length)
    ⟨0, by omega, Head.intro (AgreeOff.refl _ _) ⟨rfl, trivial⟩, H, fun i h hi => by omega⟩ ?_
  clear H
  rintro k e w1 ⟨j, hjk, ⟨jk, rfl⟩, H, hok⟩
  refine WP.regionS ?_
  refine RL.r (lss rfl rfl) rfl ?_
  refine RL.nil ?_
  refine WP.seq ?_
  refine WP.cond rfl (fun hc => ?_) (fun hc => ?_)
  · refine WP.skip ?_
    refine WP.seq ?_
    refine WP.block ?_
    refine WP.regionS ?_
    refine RL.r (mvI rfl) rfl ?_
    refine RL.r (asgI rfl) rfl ?_
    refine RL.nil ?_
    refine WP.regionS ?_
    refine RL.r (mvS rfl) rfl ?_
    refine RL.r (mvL rfl) rfl ?_
    refine RL.r (mvI rfl) rfl ?_
    have hj : j < l.length := by omega
    obtain ⟨p, rfl⟩ := hl.isAddr (by decide) hj
    refine RL.r (ix rfl rfl rfl (by omega)) rfl ?_
    refine RL.m (ld_e0 rfl hl H rfl (by omega) rfl) rfl ?_
    refine RL.r (seql rfl rfl) rfl ?_
    refine RL.nil ?_
    refine WP.cond rfl (fun hc => ?_) (fun hc => ?_)
    · refine WP.regionS ?_
      refine RL.r (mvI rfl) rfl ?_
      refine RL.r (asgI rfl) rfl ?_
      refine RL.nil ?_
      refine WP.ret ?_
      refine fin1_ret rfl ⟨⟨_, rfl, ⟨fun _ => inmem hj hc.symm, fun _ => by omega⟩⟩, H⟩
    · refine WP.skip ?_
      refine WP.region ?_
      refine RL.r (add rfl rfl (by omega)) rfl ?_
      refine RL.r (mvI rfl) rfl ?_
      refine RL.nil ?_
      refine ⟨k - 1, by omega, j + 1, by omega, Head.intro (by repeat (first | with_reducible exact AgreeOff.mix _ _ _ | refine AgreeOff.look rfl ?_ | refine AgreeOff.mixs rfl ?_)) ⟨rfl, trivial⟩, H, fun i h hi => ?_⟩
      by_cases hij : i < j
      · exact hok i h hij
      · obtain rfl : i = j := by omega
        exact fun e => hc e.symm
  · refine WP.exit ?_
    refine WP.regionS ?_
    refine RL.r (asgI rfl) rfl ?_
    refine RL.nil ?_
    refine WP.ret ?_
    refine fin1_ret rfl ⟨⟨_, rfl, ⟨fun h => by omega, fun h => absurd h (nomem fun i h => hok i h (by omega))⟩⟩, H⟩
theorem pContainsS (w0 : World) (a : Option Addr) (c : Nat) (l : List ByteArray) (t : ByteArray) (hl : Sl w0 a l) (hlen : l.length ≤ 1000) :
    Ct Try.prog 76 #[.slice a l.length c, .string t] w0 fun v w' => v = .bool (decide (t ∈ l)) ∧ Ext w0 w' := by
  refine Ct.intro1 Try.func76 Try.ntmps76 rfl rfl (by decide) rfl ?_
  have H : Ext w0 w0 := Ext.refl w0
  refine WP.regionS ?_
  refine RL.r (asgB rfl) rfl ?_
  refine RL.nil ?_
  refine WP.regionS ?_
  refine RL.r (mvL rfl) rfl ?_
  refine RL.r (mvS rfl) rfl ?_
  -- call slices.Index[[]string,string] (tmp 5) (tmp 6)
  refine RL.call (pIndexS _ _ _ _ _ hl hlen) rfl rfl ?_
  rintro v w1 ⟨⟨r, rfl, hr⟩, hx⟩
  replace H := H.ext hx
  refine RL.r (geq rfl rfl) rfl ?_
  refine RL.r (asgB rfl) rfl ?_
  refine RL.nil ?_
  refine WP.ret ?_
  refine fin1_ret rfl ⟨congrArg Value.bool (bD hr), H⟩
theorem pWants' (w0 : World) (nm : ByteArray) (ta : Option Addr) (tc : Nat) (l : List ByteArray) (t : ByteArray) (hx0 : Sl w0 ta l) (hlen : l.length ≤ 1000) :
    Ct Try.prog 66 #[.agg [.string nm, .slice ta l.length tc].toArray, .string t] w0 fun v w' => v = .bool (decide (t ∈ l)) ∧ Ext w0 w' := by
  refine Ct.intro1 Try.func66 Try.ntmps66 rfl rfl (by decide) rfl ?_
  have H : Ext w0 w0 := Ext.refl w0
  refine WP.regionS ?_
  refine RL.boxS w0.heap.size H.size rfl rfl ?_
  intro w1 i2 hi2 hx hb2
  replace H := H.ext hx; clear hx
  refine RL.r (asgB rfl) rfl ?_
  refine RL.nil ?_
  refine WP.regionS ?_
  refine RL.r (fa_box rfl) rfl ?_
  refine RL.m (ld_box rfl hb2 rfl) rfl ?_
  refine RL.r (mvS rfl) rfl ?_
  -- call slices.Contains[[]string,string] (tmp 6) (tmp 7)
  refine RL.call (pContainsS _ _ _ _ _ (hx0.ext H) hlen) rfl rfl ?_
  rintro _ w2 ⟨rfl, hx⟩
  replace H := H.ext hx; replace hb2 := hb2.ext hx
  refine RL.r (asgB rfl) rfl ?_
  refine RL.nil ?_
  refine WP.ret ?_
  refine fin1_ret rfl ⟨rfl, H⟩
theorem pWants (w0 : World) (x : Mem) (t : ByteArray) (hx0 : Sl w0 x.ta x.topics) (hlen : x.topics.length ≤ 1000) :
    Ct Try.prog 66 #[.agg (Lies.enc x).toArray, .string t] w0 fun v w' => v = .bool (decide (x.has t)) ∧ Ext w0 w' := pWants' w0 x.name x.ta x.tc x.topics t hx0 hlen
theorem rAhead (w0 : World) (b : Option Addr) (c : Nat) (m : List Mem) (n : Nat) (t : ByteArray) (hm : Sl w0 b m) (hts : ∀ x ∈ m, Sl w0 x.ta x.topics ∧ x.topics.length ≤ 1000) (hn : n ≤ m.length) (hn8 : n ≤ 1000) :
    Ct Try.prog 74 #[.slice b m.length c, .int .i64 (n : Int), .string t] w0 fun v w' => v = .int .i64 (ahead m n t : Int) ∧ Ext w0 w' := by
  refine Ct.intro1 Try.func74 Try.ntmps74 rfl rfl (by decide) rfl ?_
  have H : Ext w0 w0 := Ext.refl w0
  refine WP.regionS ?_
  refine RL.r (asgI rfl) rfl ?_
  refine RL.nil ?_
  refine WP.regionS ?_
  refine RL.r (asgI rfl) rfl ?_
  refine RL.nil ?_
  refine WP.seq ?_
  refine WP.regionS ?_
  refine RL.r (asgI rfl) rfl ?_
  refine RL.nil ?_
  refine WP.block ?_
  refine WP.loop (fun k e' w' => ∃ j : Nat,  j + k = n ∧ Head [7, 8, 9, 10, 11, 12, 13, 14, 15, 16, 17, 18, 19, 20, 21] _ [(7, .int .i64 (ahead m j t : Int)), (8, .int .i64 (j : Int))] e' ∧ Ext w0 w' ∧ True) (n)
    ⟨0, by omega, Head.intro (AgreeOff.refl _ _) ⟨by rw [ahead_zero]; rfl, rfl, trivial⟩, H, trivial⟩ ?_
  clear H
  rintro k e w1 ⟨j, hjk, ⟨jk, rfl⟩, H, -⟩
  have haj := ahead_le m j t
  refine WP.seq ?_
  refine WP.regionS ?_
  refine RL.r (mvI rfl) rfl ?_
  refine RL.r (mvI rfl) rfl ?_
  refine RL.r (lss rfl rfl) rfl ?_
  refine RL.nil ?_
  refine WP.cond rfl (fun hc => ?_) (fun hc => ?_)
  · refine WP.skip ?_
    refine WP.seq ?_
    refine WP.block ?_
    refine WP.regionS ?_
    refine RL.r (mvL rfl) rfl ?_
    refine RL.r (mvI rfl) rfl ?_
    have hj : j < m.length := by omega
    obtain ⟨p, rfl⟩ := hm.isAddr (by decide) hj
    refine RL.r (ix rfl rfl rfl (by omega)) rfl ?_
    refine RL.m (ldS_el rfl hm H rfl rfl (by omega)) rfl ?_
    refine RL.r (mvS rfl) rfl ?_
    -- call stagecoach/stagecoachref10.Wants (tmp 17) (tmp 18)
    refine RL.call (rWants _ m[j] t ((hts _ (List.getElem_mem hj)).1.ext H) (hts _ (List.getElem_mem hj)).2) rfl rfl ?_
    rintro _ w2 ⟨rfl, hx⟩
    replace H := H.ext hx
    refine RL.nil ?_
    refine WP.cond rfl (fun hc => ?_) (fun hc => ?_)
    · refine WP.region ?_
      refine RL.r (mvI rfl) rfl ?_
      refine RL.r (add rfl rfl (by omega)) rfl ?_
      refine RL.r (asgI rfl) rfl ?_
      refine RL.nil ?_
      refine WP.region ?_
      refine RL.r (mvI rfl) rfl ?_
      refine RL.r (add rfl rfl (by omega)) rfl ?_
      refine RL.r (asgI rfl) rfl ?_
      refine RL.nil ?_
      refine ⟨k - 1, by omega, j + 1, by omega, Head.intro (by repeat (first | with_reducible exact AgreeOff.mix _ _ _ | refine AgreeOff.look rfl ?_ | refine AgreeOff.mixs rfl ?_)) ⟨by rw [ahead_yes hj hc]; rfl, rfl, trivial⟩, H, trivial⟩
    · refine WP.skip ?_
      refine WP.region ?_
      refine RL.r (mvI rfl) rfl ?_
      refine RL.r (add rfl rfl (by omega)) rfl ?_
      refine RL.r (asgI rfl) rfl ?_
      refine RL.nil ?_
      refine ⟨k - 1, by omega, j + 1, by omega, Head.intro (by repeat (first | with_reducible exact AgreeOff.mix _ _ _ | refine AgreeOff.look rfl ?_ | refine AgreeOff.mixs rfl ?_)) ⟨by rw [ahead_no hj hc]; rfl, rfl, trivial⟩, H, trivial⟩
  · refine WP.exit ?_
    refine WP.regionS ?_
    refine RL.r (mvI rfl) rfl ?_
    refine RL.r (asgI rfl) rfl ?_
    refine RL.nil ?_
    refine WP.ret ?_
    refine fin1_ret rfl ⟨intE (by rw [show j = n by omega]), H⟩
theorem rParts (w0 : World) (a b : Option Addr) (c d : Nat) (x y : List Part) (hx0 : Sl w0 a x) (hy0 : Sl w0 b y) (hlen : x.length ≤ 100000) :
    Ct Try.prog 35 #[.slice a x.length c, .slice b y.length d] w0 fun v w' => v = .bool (decide (x = y)) ∧ Ext w0 w' := by
  refine Ct.intro1 Try.func35 Try.ntmps35 rfl rfl (by decide) rfl ?_
  have H : Ext w0 w0 := Ext.refl w0
  refine WP.regionS ?_
  refine RL.r (asgB rfl) rfl ?_
  refine RL.nil ?_
  refine WP.seq ?_
  refine WP.regionS ?_
  refine RL.r (mvL rfl) rfl ?_
  refine RL.r (len_sl rfl) rfl ?_
  refine RL.r (mvL rfl) rfl ?_
  refine RL.r (len_sl rfl) rfl ?_
  refine RL.r (neq rfl rfl) rfl ?_
  refine RL.nil ?_
  refine WP.cond rfl (fun hc => ?_) (fun hc => ?_)
  · refine WP.regionS ?_
    refine RL.r (asgB rfl) rfl ?_
    refine RL.nil ?_
    refine WP.ret ?_
    refine fin1_ret rfl ⟨congrArg Value.bool (bF (fun h => hc (by rw [h]))), H⟩
  · refine WP.skip ?_
    refine WP.seq ?_
    refine WP.regionS ?_
    refine RL.r (asgI rfl) rfl ?_
    refine RL.nil ?_
    refine WP.block ?_
    refine WP.loop (fun k e' w' => ∃ j : Nat,  j + k = x.length ∧ Head [4, 5, 11, 12, 13, 14, 15, 16, 17, 18, 19, 20, 21, 22, 23, 24, 25] _ [(5, .int .i64 (j : Int))] e' ∧ Ext w0 w' ∧ ∀ (i : Nat) (h : i < x.length) (h2 : i < y.length), i < j → x[i] = y[i]) (x.length)
      ⟨0, by omega, Head.intro (AgreeOff.refl _ _) ⟨rfl, trivial⟩, H, fun i h h2 hi => by omega⟩ ?_
    clear H
    rintro k e w1 ⟨j, hjk, ⟨jk, rfl⟩, H, hok⟩
    refine WP.seq ?_
    refine WP.regionS ?_
    refine RL.r (mvI rfl) rfl ?_
    refine RL.r (mvL rfl) rfl ?_
    refine RL.r (len_sl rfl) rfl ?_
    refine RL.r (lss rfl rfl) rfl ?_
    refine RL.nil ?_
    refine WP.cond rfl (fun hc => ?_) (fun hc => ?_)
    · refine WP.skip ?_
      refine WP.seq ?_
      refine WP.block ?_
      refine WP.seq ?_
      refine WP.draw (by kernel_rfl) ?_
      refine QL.r (mvL rfl) rfl ?_
      refine QL.r (mvI rfl) rfl ?_
      have hj : j < x.length := by omega
      have hj2 : j < y.length := by omega
      obtain ⟨p, rfl⟩ := hx0.isAddr (by decide) hj
      obtain ⟨q, rfl⟩ := hy0.isAddr (by decide) hj2
      refine QL.r (ix rfl rfl rfl (by omega)) rfl ?_
      refine QL.m (ldS_el rfl hx0 H rfl rfl (by omega)) rfl ?_
      refine QL.r (mvL rfl) rfl ?_
      refine QL.r (mvI rfl) rfl ?_
      refine QL.r (ix rfl rfl rfl (by omega)) rfl ?_
      refine QL.m (ldS_el rfl hy0 H rfl rfl (by omega)) rfl ?_
      refine QL.r (aneq (α := Part) rfl rfl) rfl ?_
      refine QL.nil ?_; intro w2 hx; replace H := H.ext hx
      refine WP.cond rfl (fun hc => ?_) (fun hc => ?_)
      · refine WP.regionS ?_
        refine RL.r (asgB rfl) rfl ?_
        refine RL.nil ?_
        refine WP.ret ?_
        refine fin1_ret rfl ⟨congrArg Value.bool (bF (fun h => hc (by subst h; rfl))), H⟩
      · refine WP.skip ?_
        refine WP.region ?_
        refine RL.r (mvI rfl) rfl ?_
        refine RL.r (add rfl rfl (by omega)) rfl ?_
        refine RL.r (asgI rfl) rfl ?_
        refine RL.nil ?_
        refine ⟨k - 1, by omega, j + 1, by omega, Head.intro (by repeat (first | with_reducible exact AgreeOff.mix _ _ _ | refine AgreeOff.look rfl ?_ | refine AgreeOff.mixs rfl ?_)) ⟨rfl, trivial⟩, H, fun i h h2 hi => ?_⟩
        by_cases hij : i < j
        · exact hok i h h2 hij
        · obtain rfl : i = j := by omega
          exact Classical.not_not.1 hc
    · refine WP.exit ?_
      refine WP.regionS ?_
      refine RL.r (asgB rfl) rfl ?_
      refine RL.nil ?_
      refine WP.ret ?_
      refine fin1_ret rfl ⟨congrArg Value.bool (bT (List.ext_getElem (by omega) fun i h h2 => hok i h h2 (by omega))), H⟩
theorem rWhose (w0 : World) (a : Option Addr) (c : Nat) (g : List (Rw Part)) (p : Part) (hg : Gr w0 a g) (hlen : g.length ≤ 1000) (hle : ∀ r ∈ g, r.l.length ≤ 100000) :
    Ct Try.prog 27 #[.slice a g.length c, .agg (Lies.enc p).toArray] w0 fun v w' => v = .int .i64 (whose (rows g) p) ∧ Ext w0 w' := by
  refine Ct.intro1 Try.func27 Try.ntmps27 rfl rfl (by decide) rfl ?_
  have H : Ext w0 w0 := Ext.refl w0
  refine WP.regionS ?_
  refine RL.boxS w0.heap.size H.size rfl rfl ?_
  intro w1 i3 hi3 hx hb3
  replace H := H.ext hx; clear hx
  refine RL.r (asgI rfl) rfl ?_
  refine RL.nil ?_
  refine WP.seq ?_
  refine WP.regionS ?_
  refine RL.r (asgI rfl) rfl ?_
  refine RL.nil ?_
  refine WP.block ?_
  refine WP.loop (fun k e' w' => ∃ j : Nat,  j + k = g.length ∧ Head [4, 5, 6, 7, 8, 9, 10, 11, 12, 13, 14, 15, 16, 17, 18, 19, 20, 21, 22, 23, 24, 25, 26, 27, 28, 29, 30, 31] _ [(5, .int .i64 (j : Int))] e' ∧ Ext w0 w' ∧ Box w0.heap.size w' i3 66 (Lies.enc p) ∧ ∀ (i : Nat) (h : i < g.length), i < j → ¬ p ∈ g[i].l) (g.length)
    ⟨0, by omega, Head.intro (AgreeOff.refl _ _) ⟨rfl, trivial⟩, H, hb3, fun i h hi => by omega⟩ ?_
  clear H hb3
  rintro k e w2 ⟨j, hjk, ⟨jk, rfl⟩, H, hb3, hok⟩
  refine WP.seq ?_
  refine WP.regionS ?_
  refine RL.r (mvI rfl) rfl ?_
  refine RL.r (mvL rfl) rfl ?_
  refine RL.r (len_sl rfl) rfl ?_
  refine RL.r (lss rfl rfl) rfl ?_
  refine RL.nil ?_
  refine WP.cond rfl (fun hc => ?_) (fun hc => ?_)
  · refine WP.skip ?_
    refine WP.seq ?_
    refine WP.block ?_
    refine WP.regionS ?_
    refine RL.r (asgI rfl) rfl ?_
    refine RL.nil ?_
    refine WP.block ?_
    refine WP.loop (fun k1 e' w' => ∃ j1 : Nat,  j1 + k1 = g[j].l.length ∧ Head [4, 6, 13, 14, 15, 16, 17, 18, 19, 20, 21, 22, 23, 24, 25, 26, 27, 28, 29, 30, 31] _ [(6, .int .i64 (j1 : Int))] e' ∧ Ext w0 w' ∧ Box w0.heap.size w' i3 66 (Lies.enc p) ∧ ∀ (i : Nat) (h : i < g[j].l.length), i < j1 → ¬ g[j].l[i] = p) (g[j].l.length)
      ⟨0, by omega, Head.intro (AgreeOff.refl _ _) ⟨rfl, trivial⟩, H, hb3, fun i h hi => by omega⟩ ?_
    clear H hb3
    rintro k1 e w3 ⟨j1, hjk1, ⟨jk1, rfl⟩, H, hb3, hok1⟩
    have hle1 := hle g[j] (List.getElem_mem _)
    refine WP.seq ?_
    refine WP.regionS ?_
    refine RL.r (mvI rfl) rfl ?_
    refine RL.r (mvL rfl) rfl ?_
    refine RL.r (mvI rfl) rfl ?_
    have hj : j < g.length := by omega
    obtain ⟨p0, rfl⟩ := hg.1.isAddr (by decide) hj
    refine RL.r (ix rfl rfl rfl (by omega)) rfl ?_
    refine RL.m (ld_e0 rfl hg.1 H rfl (by omega) rfl) rfl ?_
    refine RL.r (len_sl rfl) rfl ?_
    refine RL.r (lss rfl rfl) rfl ?_
    refine RL.nil ?_
    refine WP.cond rfl (fun hc => ?_) (fun hc => ?_)
    · refine WP.skip ?_
      refine WP.seq ?_
      refine WP.block ?_
      refine WP.seq ?_
      refine WP.draw (by kernel_rfl) ?_
      refine QL.r (mvL rfl) rfl ?_
      refine QL.r (mvI rfl) rfl ?_
      have hj1 : j1 < g[j].l.length := by omega
      have hgj := hg.2 _ (List.getElem_mem hj)
      obtain ⟨q, hq⟩ := hgj.isAddr (by decide) hj1
      rw [hq] at hgj
      refine QL.r (ix rfl rfl rfl (by omega)) rfl ?_
      refine QL.m (ld_e0 rfl hg.1 H rfl (by omega) (hdr hq)) rfl ?_
      refine QL.r (mvI rfl) rfl ?_
      refine QL.r (ix rfl rfl rfl (by omega)) rfl ?_
      refine QL.m (ldS_el rfl hgj H rfl rfl (by omega)) rfl ?_
      refine QL.m (ldS_box rfl hb3 (Nat.le_of_ble_eq_true rfl) rfl) rfl ?_
      refine QL.r (aeql (α := Part) rfl rfl) rfl ?_
      refine QL.nil ?_; intro w4 hx; replace H := H.ext hx; replace hb3 := hb3.ext hx
      refine WP.cond rfl (fun hc => ?_) (fun hc => ?_)
      · refine WP.regionS ?_
        refine RL.r (mvI rfl) rfl ?_
        refine RL.r (asgI rfl) rfl ?_
        refine RL.nil ?_
        refine WP.ret ?_
        refine fin1_ret rfl ⟨intE (whose_at (j := j) (by simpa using hj) ?_ ?_).symm, H⟩
        · simpa using inmem hj1 hc
        · intro i hi
          simpa using hok i (by omega) hi
      · refine WP.skip ?_
        refine WP.region ?_
        refine RL.r (mvI rfl) rfl ?_
        refine RL.r (add rfl rfl (by omega)) rfl ?_
        refine RL.r (asgI rfl) rfl ?_
        refine RL.nil ?_
        refine ⟨k1 - 1, by omega, j1 + 1, by omega, Head.intro (by repeat (first | with_reducible exact AgreeOff.mix _ _ _ | refine AgreeOff.look rfl ?_ | refine AgreeOff.mixs rfl ?_)) ⟨rfl, trivial⟩, H, hb3, fun i h hi => ?_⟩
        by_cases hij : i < j1
        · exact hok1 i h hij
        · obtain rfl : i = j1 := by omega
          exact hc
    · refine WP.exit ?_
      refine WP.region ?_
      refine RL.r (mvI rfl) rfl ?_
      refine RL.r (add rfl rfl (by omega)) rfl ?_
      refine RL.r (asgI rfl) rfl ?_
      refine RL.nil ?_
      refine ⟨k - 1, by omega, j + 1, by omega, Head.intro (by repeat (first | with_reducible exact AgreeOff.mix _ _ _ | refine AgreeOff.look rfl ?_ | refine AgreeOff.mixs rfl ?_)) ⟨rfl, trivial⟩, H, hb3, fun i h hi => ?_⟩
      by_cases hij : i < j
      · exact hok i h hij
      · obtain rfl : i = j := by omega
        exact nomem fun i h => hok1 i h (by omega)
  · refine WP.exit ?_
    refine WP.regionS ?_
    refine RL.r (asgI rfl) rfl ?_
    refine RL.nil ?_
    refine WP.ret ?_
    refine fin1_ret rfl ⟨intE (whose_no fun i hi => by simp only [List.length_map] at hi; simpa using hok i hi (by omega)).symm, H⟩
end Go.Proofs.Ytlkpgeopcdhgjaa
