/-
  The walks of Raise and Drop.
-/
import Derived.Test.YtmjamhgihbapjaaTab2
set_option linter.unusedVariables false
namespace Go.Proofs.Ytmjamhgihbapjaa
open Go Go.Eng Go.RowKit
theorem key_at {lb : List (MKey × Value × Nat)} (hn : (lb.map (·.1)).Nodup) {q x : MKey × Value × Nat} (hq : q ∈ lb) (hx : x ∈ lb) (h : x.1 = q.1) : x = q := by
  obtain ⟨i, hi, rfl⟩ := List.getElem_of_mem hq
  obtain ⟨j, hj, rfl⟩ := List.getElem_of_mem hx
  have := nodup_at hn hj hi h
  subst this
  rfl
theorem stamp_at {lb : List (MKey × Value × Nat)} (hn : (lb.map (·.2.2)).Nodup) {q x : MKey × Value × Nat} (hq : q ∈ lb) (hx : x ∈ lb) (h : x.2.2 = q.2.2) : x = q := by
  obtain ⟨i, hi, rfl⟩ := List.getElem_of_mem hq
  obtain ⟨j, hj, rfl⟩ := List.getElem_of_mem hx
  have h6 : (lb.map (·.2.2))[j]? = (lb.map (·.2.2))[i]? := by simp [hi, hj, h]
  have h7 : j = i := (List.getElem?_inj (by simpa using hj) hn).1 h6
  subst h7
  rfl
theorem Seen.contains {lb done : List (MKey × Value × Nat)} {seen : Array Nat} (h : Seen lb done seen) (n : Nat) : seen.contains n = true ↔ n ∈ done.map (·.2.2) := by
  rw [h.eq]; simp
/-! ### raise -/
def prR (p : Part) (least : Int) (x : Mrk) : Prop := (x.topic = p.topic ∧ x.n = p.n) ∧ x.off < least
instance (p : Part) (least : Int) (x : Mrk) : Decidable (prR p least x) := inferInstanceAs (Decidable (_ ∧ _))
def upR (p : Part) (least : Int) (x : MKey × Value × Nat) : MKey × Value × Nat := if prR p least (mkOf x) then (x.1, .int .i64 least, x.2.2) else x
def lbR (p : Part) (least : Int) (lb done : List (MKey × Value × Nat)) : List (MKey × Value × Nat) := lb.map fun x => if x.2.2 ∈ done.map (·.2.2) then upR p least x else x
def cntR (p : Part) (least : Int) (done : List (MKey × Value × Nat)) : Nat := done.countP fun x => decide (prR p least (mkOf x))
theorem upR_key (p : Part) (least : Int) (x : MKey × Value × Nat) : (upR p least x).1 = x.1 ∧ (upR p least x).2.2 = x.2.2 := by unfold upR; split <;> exact ⟨rfl, rfl⟩
theorem lbR_nil (p : Part) (least : Int) (lb : List (MKey × Value × Nat)) : lbR p least lb [] = lb := by simp [lbR]
theorem lbR_mem {p : Part} {least : Int} {lb done : List (MKey × Value × Nat)} {seen : Array Nat} (h : Seen lb done seen) {q : MKey × Value × Nat} (hq : q ∈ lbR p least lb done) (hs : seen.contains q.2.2 = false) : q ∈ lb := by
  obtain ⟨x, hx, rfl⟩ := List.mem_map.1 hq
  split
  · rename_i hd
    rw [if_pos hd, (upR_key p least x).2, Bool.eq_false_iff, ne_eq, h.contains] at hs
    exact absurd hd hs
  · exact hx
theorem lbR_all {p : Part} {least : Int} {lb done : List (MKey × Value × Nat)} {seen : Array Nat} (h : ∀ x ∈ lbR p least lb done, seen.contains x.2.2 = true) : ∀ x ∈ lb, seen.contains x.2.2 = true := by
  intro x hx
  have := h _ (List.mem_map.2 ⟨x, hx, rfl⟩)
  split at this
  · rwa [(upR_key p least x).2] at this
  · exact this
theorem lbR_keep {p : Part} {least : Int} {lb done : List (MKey × Value × Nat)} {seen : Array Nat} (h : Seen lb done seen) (hb : (lb.map (·.2.2)).Nodup) {q : MKey × Value × Nat} (hq : q ∈ lb) (hc : ¬ prR p least (mkOf q)) : lbR p least lb (done ++ [q]) = lbR p least lb done := by
  unfold lbR
  apply List.map_congr_left
  intro x hx
  by_cases hd : x.2.2 ∈ done.map (·.2.2)
  · rw [if_pos hd, if_pos (by simp only [List.map_append, List.mem_append]; exact .inl hd)]
  · rw [if_neg hd]
    split
    · rename_i hd2
      simp only [List.map_append, List.mem_append, List.map_cons, List.map_nil, List.mem_singleton] at hd2
      rcases hd2 with h1 | h1
      · exact absurd h1 hd
      · have := stamp_at hb hq hx h1
        subst this
        unfold upR
        rw [if_neg hc]
    · rfl
theorem lbR_set {p : Part} {least : Int} {lb done : List (MKey × Value × Nat)} {seen : Array Nat} (h : Seen lb done seen) (hb : (lb.map (·.2.2)).Nodup) (hn : (lb.map (·.1)).Nodup) {q : MKey × Value × Nat} (hq : q ∈ lb) (hs : seen.contains q.2.2 = false) (hc : prR p least (mkOf q)) (c : Nat) : setB (lbR p least lb done) c q.1 (.int .i64 least) = lbR p least lb (done ++ [q]) ∧ nextB (lbR p least lb done) c q.1 = c := by
  have hkeys : (lbR p least lb done).map (·.1) = lb.map (·.1) := by
    unfold lbR
    rw [List.map_map]
    apply List.map_congr_left
    intro x _
    simp only [Function.comp]
    split
    · exact (upR_key p least x).1
    · rfl
  have hsome : (getB (lbR p least lb done) q.1).isSome = true := by
    cases hg : getB (lbR p least lb done) q.1 with
    | some v => rfl
    | none =>
      rw [getB_none] at hg
      have : q.1 ∈ (lbR p least lb done).map (·.1) := by rw [hkeys]; exact List.mem_map.2 ⟨q, hq, rfl⟩
      obtain ⟨y, hy, hy2⟩ := List.mem_map.1 this
      exact absurd hy2 (hg y hy)
  refine ⟨?_, by unfold nextB; rw [if_pos hsome]⟩
  unfold setB
  rw [if_pos hsome]
  unfold lbR
  rw [List.map_map]
  apply List.map_congr_left
  intro x hx
  simp only [Function.comp]
  have hk : (if x.2.2 ∈ done.map (·.2.2) then upR p least x else x).1 = x.1 := by
    split
    · exact (upR_key p least x).1
    · rfl
  have hst : (if x.2.2 ∈ done.map (·.2.2) then upR p least x else x).2.2 = x.2.2 := by
    split
    · exact (upR_key p least x).2
    · rfl
  by_cases e : x.1 = q.1
  · have := key_at hn hq hx e
    subst this
    rw [hk, if_pos rfl, hst, if_pos (by simp)]
    unfold upR
    rw [if_pos hc]
  · rw [hk, if_neg e]
    by_cases hd : x.2.2 ∈ done.map (·.2.2)
    · rw [if_pos hd, if_pos (by simp only [List.map_append, List.mem_append]; exact .inl hd)]
    · rw [if_neg hd, if_neg]
      simp only [List.map_append, List.mem_append, List.map_cons, List.map_nil, List.mem_singleton]
      rintro (h1 | h1)
      · exact hd h1
      · have := stamp_at hb hq hx h1
        subst this
        exact e rfl
theorem cntR_push (p : Part) (least : Int) (done : List (MKey × Value × Nat)) (q : MKey × Value × Nat) : cntR p least (done ++ [q]) = cntR p least done + if prR p least (mkOf q) then 1 else 0 := by
  unfold cntR
  rw [List.countP_append]
  by_cases h : prR p least (mkOf q) <;> simp [h]
noncomputable def raiseV (S : List Mrk) (p : Part) (least : Int) : Int := if 1099511627776 < least then 0 else (raiseN S p least : Int)
noncomputable def raiseT (S : List Mrk) (p : Part) (least : Int) : List Mrk := if 1099511627776 < least then S else raiseS S p least
theorem raise1_key (p : Part) (least : Int) (x : Mrk) : (raise1 p least x).key = x.key := by unfold raise1; split <;> rfl
theorem tb_raise {B : Nat} {w : World} {i m c : Nat} {lb done : List (MKey × Value × Nat)} {S : List Mrk} {p : Part} {least : Int} (hb : Box B w i 60 [.map (some m)]) (hm : MpB Try.prog 62 B w m (lbR p least lb done) c) (hr : Rep lb S) (hp : done.Perm lb) (hs : S.Pairwise bef) (hk : ∀ y ∈ S, mayM y) (hl : least ≤ 1099511627776) : Tb B w i m (raiseS S p least) ∧ cntR p least done = raiseN S p least := by
  have hall : lbR p least lb done = lb.map (upR p least) := by
    unfold lbR
    apply List.map_congr_left
    intro x hx
    rw [if_pos (List.mem_map.2 ⟨x, hp.mem_iff.2 hx, rfl⟩)]
  have hmk : ∀ x ∈ lb, mkOf (upR p least x) = raise1 p least (mkOf x) ∧ (upR p least x).2.1 = .int .i64 (mkOf (upR p least x)).off := by
    intro x hx
    unfold upR raise1
    by_cases h : prR p least (mkOf x)
    · rw [if_pos h]
      unfold prR at h
      rw [if_pos h]
      exact ⟨rfl, rfl⟩
    · rw [if_neg h]
      unfold prR at h
      rw [if_neg h]
      exact ⟨rfl, (rep_int hr hx).1⟩
  constructor
  · refine ⟨hb, ⟨_, _, hm, ?_⟩, ?_, ?_⟩
    · rw [hall]
      refine rep_of ?_ ?_
      · intro q hq
        obtain ⟨x, hx, rfl⟩ := List.mem_map.1 hq
        exact (hmk x hx).2
      · rw [List.map_map]
        have e : lb.map (mkOf ∘ upR p least) = (lb.map mkOf).map (raise1 p least) := by
          rw [List.map_map]
          apply List.map_congr_left
          intro x hx
          exact (hmk x hx).1
        rw [e]
        exact (rep_marks hr).map _
    · unfold raiseS
      rw [List.pairwise_map]
      exact hs.imp fun h => (bef_congr (raise1_key p least _) (raise1_key p least _)).2 h
    · intro y hy
      obtain ⟨x, hx, rfl⟩ := List.mem_map.1 hy
      have h1 := hk x hx
      unfold raise1
      split
      · rename_i h2
        have h3 := h1.2.2.2.1
        exact ⟨h1.1, h1.2.1, h1.2.2.1, (show (0 : Int) ≤ least by have := h2.2; omega), hl⟩
      · exact h1
  · unfold cntR raiseN
    rw [hp.countP_eq, ← (rep_marks hr).countP_eq, List.countP_map]
    rfl
/-! ### drop -/
def lbD (g : ByteArray) (lb done : List (MKey × Value × Nat)) : List (MKey × Value × Nat) := lb.filter fun x => !decide (x.2.2 ∈ done.map (·.2.2) ∧ x.1.group = g)
def cntD (g : ByteArray) (done : List (MKey × Value × Nat)) : Nat := done.countP fun x => decide (x.1.group = g)
theorem lbD_nil (g : ByteArray) (lb : List (MKey × Value × Nat)) : lbD g lb [] = lb := by
  unfold lbD
  rw [List.filter_eq_self]
  intro x _
  simp
theorem lbD_mem {g : ByteArray} {lb done : List (MKey × Value × Nat)} {q : MKey × Value × Nat} (hq : q ∈ lbD g lb done) : q ∈ lb := (List.mem_filter.1 hq).1
theorem lbD_all {g : ByteArray} {lb done : List (MKey × Value × Nat)} {seen : Array Nat} (hs : Seen lb done seen) (h : ∀ x ∈ lbD g lb done, seen.contains x.2.2 = true) : ∀ x ∈ lb, seen.contains x.2.2 = true := by
  intro x hx
  by_cases hc : x.2.2 ∈ done.map (·.2.2) ∧ x.1.group = g
  · exact (hs.contains _).2 hc.1
  · exact h x (List.mem_filter.2 ⟨hx, by simp only [Bool.not_eq_true', decide_eq_false_iff_not]; exact hc⟩)
theorem lbD_keep {g : ByteArray} {lb done : List (MKey × Value × Nat)} {seen : Array Nat} (h : Seen lb done seen) (hb : (lb.map (·.2.2)).Nodup) {q : MKey × Value × Nat} (hq : q ∈ lb) (hc : ¬ q.1.group = g) : lbD g lb (done ++ [q]) = lbD g lb done := by
  unfold lbD
  apply List.filter_congr
  intro x hx
  congr 1
  rw [decide_eq_decide]
  simp only [List.map_append, List.mem_append, List.map_cons, List.map_nil, List.mem_singleton]
  constructor
  · rintro ⟨h1 | h1, h2⟩
    · exact ⟨h1, h2⟩
    · have := stamp_at hb hq hx h1
      subst this
      exact absurd h2 hc
  · rintro ⟨h1, h2⟩
    exact ⟨.inl h1, h2⟩
theorem lbD_del {g : ByteArray} {lb done : List (MKey × Value × Nat)} {seen : Array Nat} (h : Seen lb done seen) (hb : (lb.map (·.2.2)).Nodup) (hn : (lb.map (·.1)).Nodup) {q : MKey × Value × Nat} (hq : q ∈ lb) (hc : q.1.group = g) : delB (lbD g lb done) q.1 = lbD g lb (done ++ [q]) := by
  unfold delB lbD
  rw [List.filter_filter]
  apply List.filter_congr
  intro x hx
  rw [Bool.eq_iff_iff]
  simp only [Bool.and_eq_true, Bool.not_eq_true', decide_eq_false_iff_not, List.map_append, List.mem_append, List.map_cons, List.map_nil, List.mem_singleton]
  constructor
  · rintro ⟨h1, h2⟩ ⟨h3 | h3, h4⟩
    · exact h2 ⟨h3, h4⟩
    · have := stamp_at hb hq hx h3
      subst this
      exact h1 rfl
  · intro h1
    refine ⟨fun e => ?_, fun ⟨h3, h4⟩ => h1 ⟨.inl h3, h4⟩⟩
    have := key_at hn hq hx e
    subst this
    exact h1 ⟨.inr rfl, hc⟩
theorem cntD_push (g : ByteArray) (done : List (MKey × Value × Nat)) (q : MKey × Value × Nat) : cntD g (done ++ [q]) = cntD g done + if q.1.group = g then 1 else 0 := by
  unfold cntD
  rw [List.countP_append]
  by_cases h : q.1.group = g <;> simp [h]
theorem tb_drop {B : Nat} {w : World} {i m c : Nat} {lb done : List (MKey × Value × Nat)} {S : List Mrk} {g : ByteArray} (hb : Box B w i 60 [.map (some m)]) (hm : MpB Try.prog 62 B w m (lbD g lb done) c) (hr : Rep lb S) (hp : done.Perm lb) (hs : S.Pairwise bef) (hk : ∀ y ∈ S, mayM y) : Tb B w i m (dropS S g) ∧ cntD g done = dropN S g := by
  have hall : lbD g lb done = lb.filter fun x => decide ((mkOf x).group ≠ g) := by
    unfold lbD
    apply List.filter_congr
    intro x hx
    have : x.2.2 ∈ done.map (·.2.2) := List.mem_map.2 ⟨x, hp.mem_iff.2 hx, rfl⟩
    show _ = decide (x.1.group ≠ g)
    simp [this]
  constructor
  · refine ⟨hb, ⟨_, _, hm, ?_⟩, hs.sublist List.filter_sublist, fun y hy => hk y (List.mem_filter.1 hy).1⟩
    rw [hall]
    refine rep_of (fun q hq => (rep_int hr (List.mem_filter.1 hq).1).1) ?_
    have h1 := (rep_marks hr).filter (fun x => decide (x.group ≠ g))
    rw [List.filter_map] at h1
    exact h1
  · unfold cntD dropN
    rw [hp.countP_eq, ← (rep_marks hr).countP_eq, List.countP_map]
    rfl
theorem natE {x y : Nat} (h : x = y) : Value.int .i64 (x : Int) = Value.int .i64 (y : Int) := by rw [h]
theorem pRaise (w0 : World) (B i m : Nat) (S : List Mrk) (p : Part) (least : Int) (hT : Tb B w0 i m S) (hlen : S.length ≤ 100000) :
    Ct Try.prog 18 #[.pointer (some ⟨i, 0, none⟩), .agg (Lies.enc p).toArray, .int .i64 least] w0 fun v w' => (v = .int .i64 (raiseV S p least) ∧ Tb B w' i m (raiseT S p least)) ∧ Upd (· = m) w0 w' := by
  refine Ct.intro1 Try.func18 Try.ntmps18 rfl rfl (by decide) rfl ?_
  have H : Upd (· = m) w0 w0 := Upd.refl _ w0
  obtain ⟨lb, c, hm, hr⟩ := hT.map
  have hbt := hT.box
  have hln := rep_len hr
  have hnod := hm.nod
  have hstm := hm.nob
  refine WP.regionS ?_
  refine RL.boxS w0.heap.size H.size rfl rfl ?_
  intro w1 i4 hi4 hx hb4
  have net_4 := hbt.ne hi4
  replace H := H.ext hx; replace hbt := hbt.ext hx; replace hm := hm.ext hx; clear hx
  refine RL.r (asgI rfl) rfl ?_
  refine RL.nil ?_
  refine WP.seq ?_
  refine WP.regionS ?_
  refine RL.r (mvI rfl) rfl ?_
  refine RL.r (gtr rfl rfl) rfl ?_
  refine RL.nil ?_
  refine WP.cond rfl (fun hc => ?_) (fun hc => ?_)
  · refine WP.regionS ?_
    refine RL.r (asgI rfl) rfl ?_
    refine RL.nil ?_
    refine WP.ret ?_
    refine fin1_ret rfl ⟨⟨intE (by unfold raiseV; rw [if_pos hc]), by unfold raiseT; rw [if_pos hc]; exact ⟨hbt, ⟨lb, c, hm, hr⟩, hT.srt, hT.may⟩⟩, H⟩
  · refine WP.skip ?_
    refine WP.regionS ?_
    refine RL.r (asgI rfl) rfl ?_
    refine RL.nil ?_
    refine WP.seq ?_
    refine WP.regionS ?_
    refine RL.r (mvP rfl) rfl ?_
    refine RL.r (nilck rfl) rfl ?_
    refine RL.r (fa_box rfl) rfl ?_
    refine RL.m (ld_box rfl hbt rfl) rfl ?_
    refine RL.rangeM rfl hm rfl ?_
    intro w2 it hit hx hI
    have hitB : w0.heap.size ≤ it := by have := H.size; omega
    replace H := H.ext hx; replace hbt := hbt.ext hx; replace hb4 := hb4.ext hx; replace hm := hm.ext hx; clear hx
    refine RL.nil ?_
    refine WP.block ?_
    refine WP.loop (fun k e' w' => ∃ j : Nat, ∃ (done : List (MKey × Value × Nat)) (seen : Array Nat),  j + k = lb.length ∧ Head [7, 8, 9, 17, 18, 19, 20, 21, 22, 23, 24, 25, 26, 27, 28, 29, 30, 31, 32, 33, 34, 35, 36, 37, 38] _ [(7, .int .i64 ((cntR p least done : Nat) : Int))] e' ∧ Upd (· = m) w0 w' ∧ Box B w' i 60 [.map (some m)] ∧ Box w0.heap.size w' i4 24 (Lies.enc p) ∧ ItM w' it m c seen ∧ Seen lb done seen ∧ done.length = j ∧ MpB Try.prog 62 B w' m (lbR p least lb done) c) (lb.length)
      ⟨0, [], #[], by omega, Head.intro (AgreeOff.refl _ _) ⟨rfl, trivial⟩, H, hbt, hb4, hI, Seen.nil lb, rfl, (by rw [lbR_nil]; exact hm)⟩ ?_
    clear H hbt hb4 hm
    rintro k e w3 ⟨j, done, seen, hjk, ⟨jk, rfl⟩, H, hbt, hb4, hI, hS, hdl, hm⟩
    have hle := hS.le
    have hcn : cntR p least done ≤ done.length := List.countP_le_length
    refine WP.regionS ?_
    refine RL.nextM rfl hI hm rfl ?_
    intro w4 o hu ho
    have hne := hI.ne hm
    have hnb := hI.neb hbt
    have hnx := hI.neb hb4
    replace H := H.box hu hitB
    replace hbt := hbt.upd hu (Ne.symm hnb)
    replace hb4 := hb4.upd hu (Ne.symm hnx)
    replace hm := hm.upd hu (Ne.symm hne)
    clear hI hu
    refine RL.r (ex0k rfl) rfl ?_
    refine RL.nil ?_
    refine WP.seq ?_
    refine WP.cond rfl (fun hc => ?_) (fun hc => ?_)
    · refine WP.skip ?_
      refine WP.block ?_
      refine WP.regionS ?_
      obtain ⟨q, rfl⟩ := Option.ne_none_iff_exists'.1 hc
      obtain ⟨hqR, hqs, hI⟩ := ho
      have hq := lbR_mem hS hqR hqs
      have hS2 := hS.push hq hqs
      have hle2 := hS2.le
      rw [List.length_append, List.length_singleton] at hle2
      have hqv := (rep_int hr hq).1
      refine RL.m (entK rfl hI hm hqR hqv) rfl ?_
      refine RL.r (ex0 rfl) rfl ?_
      refine RL.r (ex1 rfl) rfl ?_
      refine RL.alloc w0.heap.size H.size rfl rfl ?_
      intro w5 i8 hi8 hx hb8
      have net_8 := hbt.ne hi8
      have ne4_8 := hb4.ne hi8
      refine RL.storeS rfl hb8 rfl rfl rfl rfl ?_
      intro w6 hu hb8
      replace hx := hx.box hu (Nat.le_of_eq hi8.symm)
      replace H := H.ext hx; replace hbt := hbt.ext hx; replace hb4 := hb4.ext hx; replace hI := hI.ext hx; replace hm := hm.ext hx; clear hx hu
      refine RL.r (asgI rfl) rfl ?_
      refine RL.nil ?_
      refine WP.seq (WP.quiet ?_)
      refine QL.r (fa_box rfl) rfl ?_
      refine QL.m (ldS_box rfl hb8 (Nat.le_of_ble_eq_true rfl) rfl) rfl ?_
      refine QL.m (ldS_box rfl hb4 (Nat.le_of_ble_eq_true rfl) rfl) rfl ?_
      refine QL.r (aeql (α := Part) (p := (⟨q.1.topic, q.1.n⟩ : Part)) rfl rfl) rfl ?_
      refine QL.r (mvB rfl) rfl ?_
      refine QL.gg (gwT rfl rfl) (fun hg => (mvI rfl).does _) rfl ?_
      refine QL.gg (gwT rfl rfl) (fun hg => (mvI rfl).does _) rfl ?_
      refine QL.gg (gwT rfl rfl) (fun hg => (lss (gs hg rfl) (gs hg rfl)).does _) rfl ?_
      refine QL.r (pickAnd rfl (fun hn => gs hn rfl)) rfl ?_
      refine QL.nil ?_; intro w7 hx; replace H := H.ext hx; replace hbt := hbt.ext hx; replace hb4 := hb4.ext hx; replace hb8 := hb8.ext hx; replace hI := hI.ext hx; replace hm := hm.ext hx
      refine WP.cond rfl (fun hc => ?_) (fun hc => ?_)
      · refine WP.seq ?_
        refine WP.any ?_
        intro w8 hx; replace H := H.ext hx; replace hbt := hbt.ext hx; replace hb4 := hb4.ext hx; replace hb8 := hb8.ext hx; replace hI := hI.ext hx; replace hm := hm.ext hx
        refine AL.p 0 (by kernel_rfl) rfl (mvP rfl) rfl ?_
        refine AL.p 1 (by kernel_rfl) rfl (nilck rfl) rfl ?_
        refine AL.p 2 (by kernel_rfl) rfl (fa_box rfl) rfl ?_
        refine AL.p 5 (by kernel_rfl) rfl (mvI rfl) rfl ?_
        refine AL.m 3 (by kernel_rfl) rfl (ld_box rfl hbt rfl) rfl ?_
        refine AL.m 4 (by kernel_rfl) rfl (ldS_box rfl hb8 (Nat.le_of_ble_eq_true rfl) rfl) rfl ?_
        refine AL.o 6 (by kernel_rfl) rfl ?_
        have hcR : prR p least (mkOf q) := by
          obtain ⟨h1, h2⟩ := hc
          exact ⟨by rw [← h1]; exact ⟨rfl, rfl⟩, h2⟩
        refine RL.updM (k := q.1) (v := .int .i64 least) rfl hm rfl rfl ?_
        intro w9 hu hm'
        obtain ⟨e1, e2⟩ := lbR_set (lb := lb) hS hstm hnod hq hqs hcR c
        rw [e1, e2] at hm'
        have hnb := hm.neb hbt
        have hnx := hm.neb hb4
        replace hI := hI.upd hu (hI.ne hm)
        replace H := Upd.same H hu
        replace hbt := hbt.upd hu (Ne.symm hnb)
        replace hb4 := hb4.upd hu (Ne.symm hnx)
        have hcp := cntR_push p least done q
        rw [if_pos hcR] at hcp
        refine RL.nil ?_
        refine AL.nil (by kernel_rfl) ?_
        refine WP.region ?_
        refine RL.r (mvI rfl) rfl ?_
        refine RL.r (add rfl rfl (by omega)) rfl ?_
        refine RL.r (asgI rfl) rfl ?_
        refine RL.nil ?_
        refine ⟨k - 1, by omega, j + 1, done ++ [q], seen.push q.2.2, by omega, Head.intro (by repeat (first | with_reducible exact AgreeOff.mix _ _ _ | refine AgreeOff.look rfl ?_ | refine AgreeOff.mixs rfl ?_)) ⟨intE (by rw [hcp]; omega), trivial⟩, H, hbt, hb4, hI, hS2, by simp [hdl], hm'⟩
      · refine WP.skip ?_
        have hcR : ¬ prR p least (mkOf q) := by
          rintro ⟨⟨h1, h2⟩, h3⟩
          exact hc ⟨by cases p; simp only [Part.mk.injEq]; exact ⟨h1, h2⟩, h3⟩
        have hcp := cntR_push p least done q
        rw [if_neg hcR] at hcp
        refine ⟨k - 1, by omega, j + 1, done ++ [q], seen.push q.2.2, by omega, Head.intro (by repeat (first | with_reducible exact AgreeOff.mix _ _ _ | refine AgreeOff.look rfl ?_ | refine AgreeOff.mixs rfl ?_)) ⟨intE (by rw [hcp]; omega), trivial⟩, H, hbt, hb4, hI, hS2, by simp [hdl], (by rw [lbR_keep hS hstm hq hcR]; exact hm)⟩
    · refine WP.exit ?_
      refine WP.regionS ?_
      refine RL.r (mvI rfl) rfl ?_
      refine RL.r (asgI rfl) rfl ?_
      refine RL.nil ?_
      refine WP.ret ?_
      obtain rfl : o = none := Classical.not_not.1 hc
      obtain ⟨hall, hI⟩ := ho
      have hend := tb_raise hbt hm hr (hS.perm hstm (lbR_all hall)) hT.srt hT.may (by omega)
      refine fin1_ret rfl ⟨⟨intE (by unfold raiseV; rw [if_neg (by assumption), hend.2]), by unfold raiseT; rw [if_neg (by assumption)]; exact hend.1⟩, H⟩
theorem pDrop (w0 : World) (B i m : Nat) (S : List Mrk) (g : ByteArray) (hT : Tb B w0 i m S) (hlen : S.length ≤ 100000) :
    Ct Try.prog 19 #[.pointer (some ⟨i, 0, none⟩), .string g] w0 fun v w' => (v = .int .i64 ((dropN S g : Nat) : Int) ∧ Tb B w' i m (dropS S g)) ∧ Upd (· = m) w0 w' := by
  refine Ct.intro1 Try.func19 Try.ntmps19 rfl rfl (by decide) rfl ?_
  have H : Upd (· = m) w0 w0 := Upd.refl _ w0
  obtain ⟨lb, c, hm, hr⟩ := hT.map
  have hbt := hT.box
  have hln := rep_len hr
  have hnod := hm.nod
  have hstm := hm.nob
  refine WP.regionS ?_
  refine RL.r (asgI rfl) rfl ?_
  refine RL.nil ?_
  refine WP.regionS ?_
  refine RL.r (asgI rfl) rfl ?_
  refine RL.nil ?_
  refine WP.seq ?_
  refine WP.regionS ?_
  refine RL.r (mvP rfl) rfl ?_
  refine RL.r (nilck rfl) rfl ?_
  refine RL.r (fa_box rfl) rfl ?_
  refine RL.m (ld_box rfl hbt rfl) rfl ?_
  refine RL.rangeM rfl hm rfl ?_
  intro w1 it hit hx hI
  have hitB : w0.heap.size ≤ it := by have := H.size; omega
  replace H := H.ext hx; replace hbt := hbt.ext hx; replace hm := hm.ext hx; clear hx
  refine RL.nil ?_
  refine WP.block ?_
  refine WP.loop (fun k e' w' => ∃ j : Nat, ∃ (done : List (MKey × Value × Nat)) (seen : Array Nat),  j + k = lb.length ∧ Head [5, 6, 12, 13, 14, 15, 16, 17, 18, 19, 20, 21, 22, 23, 24, 25, 26] _ [(5, .int .i64 ((cntD g done : Nat) : Int))] e' ∧ Upd (· = m) w0 w' ∧ Box B w' i 60 [.map (some m)] ∧ ItM w' it m c seen ∧ Seen lb done seen ∧ done.length = j ∧ MpB Try.prog 62 B w' m (lbD g lb done) c) (lb.length)
    ⟨0, [], #[], by omega, Head.intro (AgreeOff.refl _ _) ⟨rfl, trivial⟩, H, hbt, hI, Seen.nil lb, rfl, (by rw [lbD_nil]; exact hm)⟩ ?_
  clear H hbt hm
  rintro k e w2 ⟨j, done, seen, hjk, ⟨jk, rfl⟩, H, hbt, hI, hS, hdl, hm⟩
  have hle := hS.le
  have hcn : cntD g done ≤ done.length := List.countP_le_length
  refine WP.regionS ?_
  refine RL.nextM rfl hI hm rfl ?_
  intro w3 o hu ho
  have hne := hI.ne hm
  have hnb := hI.neb hbt
  replace H := H.box hu hitB
  replace hbt := hbt.upd hu (Ne.symm hnb)
  replace hm := hm.upd hu (Ne.symm hne)
  clear hI hu
  refine RL.r (ex0k rfl) rfl ?_
  refine RL.nil ?_
  refine WP.seq ?_
  refine WP.cond rfl (fun hc => ?_) (fun hc => ?_)
  · refine WP.skip ?_
    refine WP.block ?_
    refine WP.regionS ?_
    obtain ⟨q, rfl⟩ := Option.ne_none_iff_exists'.1 hc
    obtain ⟨hqR, hqs, hI⟩ := ho
    have hq := lbD_mem hqR
    have hS2 := hS.push hq hqs
    have hle2 := hS2.le
    rw [List.length_append, List.length_singleton] at hle2
    refine RL.m (entK rfl hI hm hqR rfl) rfl ?_
    refine RL.r (ex0 rfl) rfl ?_
    refine RL.alloc w0.heap.size H.size rfl rfl ?_
    intro w4 i6 hi6 hx hb6
    have net_6 := hbt.ne hi6
    refine RL.storeS rfl hb6 rfl rfl rfl rfl ?_
    intro w5 hu hb6
    replace hx := hx.box hu (Nat.le_of_eq hi6.symm)
    replace H := H.ext hx; replace hbt := hbt.ext hx; replace hI := hI.ext hx; replace hm := hm.ext hx; clear hx hu
    refine RL.nil ?_
    refine WP.regionS ?_
    refine RL.r (fa_box rfl) rfl ?_
    refine RL.m (ld_box rfl hb6 rfl) rfl ?_
    refine RL.r (mvS rfl) rfl ?_
    refine RL.r (seql rfl rfl) rfl ?_
    refine RL.nil ?_
    refine WP.cond rfl (fun hc => ?_) (fun hc => ?_)
    · refine WP.seq ?_
      refine WP.any ?_
      intro w6 hx; replace H := H.ext hx; replace hbt := hbt.ext hx; replace hb6 := hb6.ext hx; replace hI := hI.ext hx; replace hm := hm.ext hx
      refine AL.p 0 (by kernel_rfl) rfl (mvP rfl) rfl ?_
      refine AL.p 1 (by kernel_rfl) rfl (nilck rfl) rfl ?_
      refine AL.p 2 (by kernel_rfl) rfl (fa_box rfl) rfl ?_
      refine AL.m 3 (by kernel_rfl) rfl (ld_box rfl hbt rfl) rfl ?_
      refine AL.m 4 (by kernel_rfl) rfl (ldS_box rfl hb6 (Nat.le_of_ble_eq_true rfl) rfl) rfl ?_
      refine AL.o 5 (by kernel_rfl) rfl ?_
      refine RL.delM0 (k := q.1) rfl hm rfl ?_
      intro w7 hu hm'
      rw [lbD_del (lb := lb) hS hstm hnod hq hc] at hm'
      have hnb := hm.neb hbt
      replace hI := hI.upd hu (hI.ne hm)
      replace H := Upd.same H hu
      replace hbt := hbt.upd hu (Ne.symm hnb)
      have hcp := cntD_push g done q
      rw [if_pos hc] at hcp
      refine RL.nil ?_
      refine AL.nil (by kernel_rfl) ?_
      refine WP.region ?_
      refine RL.r (mvI rfl) rfl ?_
      refine RL.r (add rfl rfl (by omega)) rfl ?_
      refine RL.r (asgI rfl) rfl ?_
      refine RL.nil ?_
      refine ⟨k - 1, by omega, j + 1, done ++ [q], seen.push q.2.2, by omega, Head.intro (by repeat (first | with_reducible exact AgreeOff.mix _ _ _ | refine AgreeOff.look rfl ?_ | refine AgreeOff.mixs rfl ?_)) ⟨intE (by rw [hcp]; omega), trivial⟩, H, hbt, hI, hS2, by simp [hdl], hm'⟩
    · refine WP.skip ?_
      have hcp := cntD_push g done q
      rw [if_neg hc] at hcp
      refine ⟨k - 1, by omega, j + 1, done ++ [q], seen.push q.2.2, by omega, Head.intro (by repeat (first | with_reducible exact AgreeOff.mix _ _ _ | refine AgreeOff.look rfl ?_ | refine AgreeOff.mixs rfl ?_)) ⟨intE (by rw [hcp]; omega), trivial⟩, H, hbt, hI, hS2, by simp [hdl], (by rw [lbD_keep hS hstm hq hc]; exact hm)⟩
  · refine WP.exit ?_
    refine WP.regionS ?_
    refine RL.r (mvI rfl) rfl ?_
    refine RL.r (asgI rfl) rfl ?_
    refine RL.nil ?_
    refine WP.ret ?_
    obtain rfl : o = none := Classical.not_not.1 hc
    obtain ⟨hall, hI⟩ := ho
    have hend := tb_drop hbt hm hr (hS.perm hstm (lbD_all hS hall)) hT.srt hT.may
    refine fin1_ret rfl ⟨⟨intE (by rw [hend.2]), hend.1⟩, H⟩
end Go.Proofs.Ytmjamhgihbapjaa
