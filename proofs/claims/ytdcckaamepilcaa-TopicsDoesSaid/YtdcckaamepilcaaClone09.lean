/-
  maps.Clone at this seat; the walks of Copy.
-/
import Derived.Test.YtdcckaamepilcaaRef09b
import Derived.Shelf.SlMaps.Clone
set_option linter.unusedVariables false
namespace Go.Proofs.Ytdcckaamepilcaa
open Go Go.Eng Go.RowKit
def cloneM_ren : Go.Shelf.Ren := ⟨fun | 5 => 38 | 7 => 47 | n => n, fun | 23 => 58 | 25 => 9 | 3 => 3 | 4 => 4 | 20 => 20 | n => n, fun n => n⟩
theorem cloneM : Go.Proofs.SlLaysW.n5 Try.prog cloneM_ren where
  mixed := by kernel_rfl
  f5 := ⟨Try.f38.name, by kernel_rfl, Try.func38.trans (congrArg some (by kernel_rfl))⟩
  f7 := Try.func47.trans (congrArg some (by kernel_rfl))
  t4 := Try.underlying4
  a4 := Try.isAgg4
  z4 := Try.sizeOf4
  v4 := Try.zeroValue4
  t20 := Try.underlying20
  a20 := Try.isAgg20
  z20 := Try.sizeOf20
  v20 := Try.zeroValue20
  t23 := Try.underlying58
  a23 := Try.isAgg58
  z23 := Try.sizeOf58
  v23 := Try.zeroValue58
theorem pClone (w0 : World) (B m : Nat) (lb : List (ByteArray × Value × Nat)) (c : Nat) (hm : MpB Try.prog 9 B w0 m lb c) :
    Ct Try.prog 38 #[.map (some m)] w0 fun v w' => (∃ m2, v = .map (some m2) ∧ MpB Try.prog 9 w0.heap.size w' m2 lb c) ∧ Ext w0 w' := by
  obtain ⟨es, h1, h2⟩ := hm.at_
  refine ⟨cloneM.f5.enters rfl, ?_⟩
  refine (Go.Proofs.AnyW.maps_Clone cloneM m es c w0 h1).mono ?_
  rintro e w' ⟨rfl, rfl⟩
  exact ⟨_, rfl, ⟨_, rfl, Nat.le_refl _, hm.nod, ⟨es, heap_alloc_new w0 _, h2⟩, hm.lt, hm.nob⟩, Ext.alloc _ _⟩
theorem pCopy (w0 : World) (B i m : Nat) (S : List Topic) (hT : Tc B w0 i m S) :
    Ct Try.prog 25 #[.pointer (some ⟨i, 0, none⟩)] w0 fun v w' => (∃ i2 m2, v = .pointer (some ⟨i2, 0, none⟩) ∧ Tc w0.heap.size w' i2 m2 S) ∧ Ext w0 w' := by
  refine Ct.intro1 Try.func25 Try.ntmps25 rfl rfl (by decide) rfl ?_
  have H : Ext w0 w0 := Ext.refl w0
  obtain ⟨lb, c, hm, hr⟩ := hT.map
  have hbt := hT.box
  refine WP.regionS ?_
  refine RL.r (asgP rfl) rfl ?_
  refine RL.nil ?_
  refine WP.regionS ?_
  refine RL.r (mvP rfl) rfl ?_
  refine RL.r (nilck rfl) rfl ?_
  refine RL.r (fa_box rfl) rfl ?_
  refine RL.m (ld_box rfl hbt rfl) rfl ?_
  -- call maps.Clone[map[string]int,string,int] (tmp 6)
  refine RL.call (pClone _ _ m lb c hm) rfl rfl ?_
  rintro v w1 ⟨⟨m2, rfl, hm2⟩, hx⟩
  replace H := H.ext hx; replace hbt := hbt.ext hx; replace hm := hm.ext hx
  refine RL.r (bld rfl rfl) rfl ?_
  refine RL.boxS w0.heap.size H.size rfl rfl ?_
  intro w2 i9 hi9 hx hb9
  have net_9 := hbt.ne hi9
  replace H := H.ext hx; replace hbt := hbt.ext hx; replace hm := hm.ext hx; replace hm2 := hm2.ext hx; clear hx
  refine RL.r (asgP rfl) rfl ?_
  refine RL.nil ?_
  refine WP.ret ?_
  refine fin1_ret rfl ⟨⟨_, m2, rfl, hb9, ⟨lb, c, hm2, hr⟩, hT.ok⟩, H⟩
theorem tr_new {B i : Nat} {w : World} (h : Box B w i 54 [.slice none 0 0]) : Tr B w i none [] := ⟨⟨0, h, Own.nil _ _ _⟩, okC0⟩
theorem box_xr {B B' i b : Nat} {a : Option Addr} {w w' : World} {S : List Topic} {T : TypeId} {cs : List Value} (h : Box B' w b T cs) (hT : Tr B w i a S) (h1 : T ≠ 54) (h2 : 25 ≠ T) (k : Upd (XR i a) w w') : Box B' w' b T cs := by
  obtain ⟨c', hb, ho⟩ := hT.at_
  refine h.upd k ?_
  rintro (e | e)
  · exact box_nt h hb h1 e
  · exact ho.box_apart h h2 e
theorem own_xr {α : Type} [Lies α] {B B' i c : Nat} {a a' : Option Addr} {w w' : World} {S : List Topic} {T : TypeId} {l : List α} (h : Eng.Own B' w T a' c l) (hT : Tr B w i a S) (h1 : T ≠ 54) (h2 : T ≠ 25) (k : Upd (XR i a) w w') : Eng.Own B' w' T a' c l := by
  obtain ⟨c', hb, ho⟩ := hT.at_
  refine h.upd k ?_
  rintro j hj (e | e)
  · exact h.box_apart hb h1 (e ▸ hj)
  · exact h.apart ho h2 hj e
theorem Upd.xi {i : Nat} {a : Option Addr} {w w' : World} (h : Upd (· = i) w w') : Upd (XR i a) w w' := h.mono fun k _ e => Or.inl e
theorem AL.mvF {P : Program} {n : Nat} {ops : Array Oper} {fuel : Nat} {done : List Nat} {K : Env → World → Prop} {el : List (Nat × Value)} {b : Env} {w : World} {dt : Nat} {ty : TypeId} {pos : String} {after : Array Edge} (i : Nat) {x : Operand} {p : Prop} {dp : Decidable p} (hB : pureOk ops done i = true) (hi : ops[i]? = some ⟨some dt, .move x, ty, pos, after, none⟩) (hx : ev (Eng.look el b) x = .bool (@decide p dp)) (h : ¬ p) (hd : Nat.blt dt n = true)
    (k : AL P n ops fuel (i :: done) K (Eng.look ((dt, .bool false) :: el) b) w) : AL P n ops (fuel + 1) done K (Eng.look el b) w := by
  refine AL.p i hB hi (v := .bool false) ?_ hd k
  have := mv (P := P) (e := Eng.look el b) x
  rwa [hx, decide_eq_false h] at this
end Go.Proofs.Ytdcckaamepilcaa
