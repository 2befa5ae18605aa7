/-
  The walks of a table's functions that range over the map: List, Raise, Drop.
-/
import Derived.Test.YtmjamhgihbapjaaTab1
import Derived.Test.YtmjamhgihbapjaaSortM
set_option linter.unusedVariables false
namespace Go.Proofs.Ytmjamhgihbapjaa
open Go Go.Eng Go.RowKit
/-- the entries that a range has been at -/
structure Seen (lb done : List (MKey × Value × Nat)) (seen : Array Nat) : Prop where
  eq : seen = (done.map (·.2.2)).toArray
  nod : (done.map (·.2.2)).Nodup
  sub : ∀ x ∈ done, x ∈ lb
theorem Seen.nil (lb : List (MKey × Value × Nat)) : Seen lb [] #[] := ⟨rfl, by simp, by simp⟩
theorem Seen.push {lb done : List (MKey × Value × Nat)} {seen : Array Nat} (h : Seen lb done seen) {q : MKey × Value × Nat} (hq : q ∈ lb) (hn : seen.contains q.2.2 = false) : Seen lb (done ++ [q]) (seen.push q.2.2) := by
  refine ⟨by rw [h.eq]; simp, ?_, fun x hx => ?_⟩
  · rw [List.map_append, List.nodup_append]
    refine ⟨h.nod, by simp, ?_⟩
    intro a ha b hb e
    simp only [List.map_cons, List.map_nil, List.mem_singleton] at hb
    subst hb
    subst e
    rw [h.eq] at hn
    simp at hn
    obtain ⟨x, hx, hx2⟩ := List.mem_map.1 ha
    exact hn x.1 x.2.1 (by rw [← hx2]; exact hx)
  · rcases List.mem_append.1 hx with hx | hx
    · exact h.sub x hx
    · rw [List.mem_singleton.1 hx]; exact hq
theorem nodup_of_map {α β : Type} {f : α → β} {l : List α} (h : (l.map f).Nodup) : l.Nodup := (List.pairwise_map.1 h).imp fun hab e => hab (by rw [e])
theorem Seen.le {lb done : List (MKey × Value × Nat)} {seen : Array Nat} (h : Seen lb done seen) : done.length ≤ lb.length :=
  List.Nodup.length_le_of_subset (nodup_of_map h.nod) h.sub
theorem Seen.perm {lb done : List (MKey × Value × Nat)} {seen : Array Nat} (h : Seen lb done seen) (hb : (lb.map (·.2.2)).Nodup) (ha : ∀ x ∈ lb, seen.contains x.2.2 = true) : done.Perm lb := by
  rw [List.perm_ext_iff_of_nodup (nodup_of_map h.nod) (nodup_of_map hb)]
  intro x
  refine ⟨h.sub x, fun hx => ?_⟩
  have h1 := ha x hx
  rw [h.eq] at h1
  have h2 : x.2.2 ∈ done.map (·.2.2) := by simpa using h1
  obtain ⟨y, hy, hy2⟩ := List.mem_map.1 h2
  obtain ⟨i, hi, rfl⟩ := List.getElem_of_mem (h.sub y hy)
  obtain ⟨j, hj, rfl⟩ := List.getElem_of_mem hx
  have h6 : (lb.map (·.2.2))[i]? = (lb.map (·.2.2))[j]? := by simp [hi, hj, hy2]
  have h7 : i = j := (List.getElem?_inj (by simpa using hi) hb).1 h6
  subst h7
  exact hy
def vInt : Value → Int
  | .int _ v => v
  | _ => 0
/-- an entry's mark -/
def mkOf (x : MKey × Value × Nat) : Mrk := ⟨x.1.group, x.1.topic, x.1.n, vInt x.2.1⟩
theorem rep_marks {lb : List (MKey × Value × Nat)} {S : List Mrk} (h : Rep lb S) : (lb.map mkOf).Perm S := by
  have := h.map fun (p : MKey × Value) => (⟨p.1.group, p.1.topic, p.1.n, vInt p.2⟩ : Mrk)
  rw [List.map_map, List.map_map] at this
  have e : S.map ((fun (p : MKey × Value) => (⟨p.1.group, p.1.topic, p.1.n, vInt p.2⟩ : Mrk)) ∘ prS) = S := by
    conv => rhs; rw [← List.map_id S]
    apply List.map_congr_left
    intro x _
    cases x; rfl
  rw [e] at this
  exact this
theorem rep_int {lb : List (MKey × Value × Nat)} {S : List Mrk} (h : Rep lb S) {q : MKey × Value × Nat} (hq : q ∈ lb) : q.2.1 = .int .i64 (mkOf q).off ∧ mkOf q ∈ S := by
  have h1 : prB q ∈ S.map prS := h.mem_iff.1 (List.mem_map.2 ⟨q, hq, rfl⟩)
  obtain ⟨x, hx, hx2⟩ := List.mem_map.1 h1
  have e1 : x.key = q.1 := congrArg Prod.fst hx2
  have e2 : Value.int .i64 x.off = q.2.1 := congrArg Prod.snd hx2
  have e3 : mkOf q = x := by
    unfold mkOf
    rw [← e1, ← e2]
    cases x; rfl
  exact ⟨by rw [e3, e2], by rw [e3]; exact hx⟩
theorem mkOf_key (x : MKey × Value × Nat) : (mkOf x).key = x.1 := rfl
theorem prB_of {lb : List (MKey × Value × Nat)} {S : List Mrk} (h : Rep lb S) {q : MKey × Value × Nat} (hq : q ∈ lb) : prB q = prS (mkOf q) := by
  unfold prB prS
  rw [mkOf_key, ← (rep_int h hq).1]
/-- entries, and the marks that they are -/
theorem rep_of {lb : List (MKey × Value × Nat)} {S : List Mrk} (h1 : ∀ q ∈ lb, q.2.1 = .int .i64 (mkOf q).off) (h2 : (lb.map mkOf).Perm S) : Rep lb S := by
  unfold Rep
  refine List.Perm.trans (List.Perm.of_eq ?_) (h2.map prS)
  rw [List.map_map]
  apply List.map_congr_left
  intro q hq
  unfold prB
  simp only [Function.comp, prS, mkOf_key]
  rw [← h1 q hq]
theorem slE {a : Option Addr} {n n' c : Nat} (h : n = n') : Value.slice a n c = Value.slice a n' c := by rw [h]
theorem pList (w0 : World) (B i m : Nat) (S : List Mrk) (hT : Tb B w0 i m S) (hlen : S.length ≤ 100000) :
    Ct Try.prog 13 #[.pointer (some ⟨i, 0, none⟩)] w0 fun v w' => (∃ a c, v = .slice a S.length c ∧ Own w0.heap.size w' 26 a c S) ∧ Ext w0 w' := by
  refine Ct.intro1 Try.func13 Try.ntmps13 rfl rfl (by decide) rfl ?_
  have H : Ext w0 w0 := Ext.refl w0
  obtain ⟨lb, c, hm, hr⟩ := hT.map
  have hbt := hT.box
  have hln := rep_len hr
  refine WP.regionS ?_
  refine RL.r (asgL rfl) rfl ?_
  refine RL.nil ?_
  refine WP.regionS ?_
  refine RL.r (asgL rfl) rfl ?_
  refine RL.nil ?_
  refine WP.seq ?_
  refine WP.regionS ?_
  refine RL.r (mvP rfl) rfl ?_
  refine RL.r (nilck rfl) rfl ?_
  refine RL.r (fa_box rfl) rfl ?_
  refine RL.m (ld_box rfl hbt rfl) rfl ?_
  refine RL.rangeM rfl hm rfl ?_
  intro w1 it hit hx hI
  have hitB : w0.heap.size ≤ it := by have := H.size; omega
  replace H := H.ext hx; replace hm := hm.ext hx; replace hbt := hbt.ext hx; clear hx
  refine RL.nil ?_
  refine WP.block ?_
  refine WP.loop (fun k e' w' => ∃ j : Nat, ∃ (done : List (MKey × Value × Nat)) (seen : Array Nat) (a3 : Option Addr) (c3 : Nat),  j + k = lb.length ∧ Head [3, 4, 5, 11, 12, 13, 14, 15, 16, 17, 18, 19, 20, 21, 22, 23, 24] _ [(3, .slice a3 (done.map mkOf).length c3)] e' ∧ Ext w0 w' ∧ MpB Try.prog 62 B w' m lb c ∧ Box B w' i 60 [.map (some m)] ∧ ItM w' it m c seen ∧ Seen lb done seen ∧ done.length = j ∧ Own w0.heap.size w' 26 a3 c3 (done.map mkOf)) (lb.length)
    ⟨0, [], #[], none, 0, by omega, Head.intro (AgreeOff.refl _ _) ⟨rfl, trivial⟩, H, hm, hbt, hI, Seen.nil lb, rfl, Own.nil _ _ _⟩ ?_
  clear H hm hbt
  rintro k e w2 ⟨j, done, seen, a3, c3, hjk, ⟨jk, rfl⟩, H, hm, hbt, hI, hS, hdl, hO⟩
  have hNI := hI.nea hO
  have hmap : (done.map mkOf).length = j := by simpa using hdl
  have hle := hS.le
  refine WP.regionS ?_
  refine RL.nextM rfl hI hm rfl ?_
  intro w3 o hu ho
  have hne := hI.ne hm
  have hnb := hI.neb hbt
  replace H := H.box hu hitB
  replace hbt := hbt.upd hu (Ne.symm hnb)
  replace hm := hm.upd hu (Ne.symm hne)
  replace hO := hO.upd hu (fun k hk e => hNI (e ▸ hk))
  clear hI hu
  refine RL.r (ex0k rfl) rfl ?_
  refine RL.nil ?_
  refine WP.seq ?_
  refine WP.cond rfl (fun hc => ?_) (fun hc => ?_)
  · refine WP.skip ?_
    refine WP.block ?_
    refine WP.regionS ?_
    obtain ⟨q, rfl⟩ := Option.ne_none_iff_exists'.1 hc
    obtain ⟨hq, hqs, hI⟩ := ho
    have hS2 := hS.push hq hqs
    have hle2 := hS2.le
    rw [List.length_append, List.length_singleton] at hle2
    have hqv := (rep_int hr hq).1
    refine RL.m (entK rfl hI hm hq hqv) rfl ?_
    refine RL.r (ex0 rfl) rfl ?_
    refine RL.r (ex1 rfl) rfl ?_
    refine RL.alloc w0.heap.size H.size rfl rfl ?_
    intro w4 i4 hi4 hx hb4
    have net_4 := hbt.ne hi4
    refine RL.storeS rfl hb4 rfl rfl rfl rfl ?_
    intro w5 hu hb4
    replace hx := hx.box hu (Nat.le_of_eq hi4.symm)
    replace H := H.ext hx; replace hm := hm.ext hx; replace hbt := hbt.ext hx; replace hI := hI.ext hx; replace hO := hO.ext hx; clear hx hu
    refine RL.r (asgI rfl) rfl ?_
    refine RL.nil ?_
    refine WP.region ?_
    refine RL.r (mvL rfl) rfl ?_
    refine RL.r (fa_box rfl) rfl ?_
    refine RL.m (ld_box rfl hb4 rfl) rfl ?_
    refine RL.r (fa_box rfl) rfl ?_
    refine RL.m (ldS_box rfl hb4 (Nat.le_of_ble_eq_true rfl) rfl) rfl ?_
    refine RL.r (mvI rfl) rfl ?_
    refine RL.r (bld rfl rfl) rfl ?_
    refine RL.buildSlice w0.heap.size H.size rfl rfl rfl rfl rfl ?_
    intro w6 i23 hi23 hx hb23
    replace H := H.ext hx; replace hm := hm.ext hx; replace hbt := hbt.ext hx; replace hb4 := hb4.ext hx; replace hI := hI.ext hx; replace hO := hO.ext hx; clear hx
    refine RL.appendS rfl hO H.size rfl (show Sl _ _ [mkOf q] from Box.sl1 hb23) rfl rfl (by decide) rfl cell1 (by omega) (by simp only [maxLen]; omega) rfl ?_
    intro w7 a5 c5 hu hO5 hfr24
    have hnm := hm.nea hO
    have hnt : ¬ inBlock a3 i := fun h => hO.box_apart hbt (by decide) h
    replace hI := hI.upd hu (hI.nea hO)
    replace hm := hm.upd hu hnm
    replace hbt := hbt.upd hu hnt
    replace H := Ext.own H hO hu
    refine RL.r (asgL rfl) rfl ?_
    refine RL.nil ?_
    refine ⟨k - 1, by omega, j + 1, done ++ [q], seen.push q.2.2, a5, c5, by omega, Head.intro (by repeat (first | with_reducible exact AgreeOff.mix _ _ _ | refine AgreeOff.look rfl ?_ | refine AgreeOff.mixs rfl ?_)) ⟨slE (by rw [List.map_append]; rfl), trivial⟩, H, hm, hbt, hI, hS2, by simp [hdl], (by rw [List.map_append]; exact hO5)⟩
  · refine WP.exit ?_
    refine WP.regionS ?_
    refine RL.r (mvL rfl) rfl ?_
    -- call slices.SortFunc[[]stagecoach/api.Mark,stagecoach/api.Mark] (tmp 25) (func 28)
    obtain rfl : o = none := Classical.not_not.1 hc
    obtain ⟨hall, hI⟩ := ho
    have hp := (hS.perm hm.nob hall).map mkOf
    refine RL.call (pSort _ _ _ _ (done.map mkOf) hO (by omega)) rfl rfl ?_
    rintro _ w8 ⟨⟨l2, hp2, hs2, hO2⟩, hx⟩
    replace H := Ext.own H hO hx; replace hm := hm.upd hx (hm.nea hO); replace hbt := hbt.upd hx (fun h => hO.box_apart hbt (by decide) h); replace hI := hI.upd hx (hI.nea hO)
    refine RL.nil ?_
    refine WP.regionS ?_
    refine RL.r (mvL rfl) rfl ?_
    refine RL.r (asgL rfl) rfl ?_
    refine RL.nil ?_
    refine WP.ret ?_
    have hS2 := sorted_of hT.srt (hp2.trans (hp.trans (rep_marks hr))) hs2
    have hl2 := hp2.length_eq
    refine fin1_ret rfl ⟨⟨a3, c3, slE (by rw [← hS2, hl2]), by rw [← hS2]; exact hO2⟩, H⟩
end Go.Proofs.Ytmjamhgihbapjaa
