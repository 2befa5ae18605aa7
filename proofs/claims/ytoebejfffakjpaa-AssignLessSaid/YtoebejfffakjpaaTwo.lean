/-
  Two: walks and laws, written by gen/gen.py out of gen/thy/Two.py.
-/
import Derived.Test.YtoebejfffakjpaaRRobin
set_option linter.unusedVariables false
namespace Go.Proofs.Ytoebejfffakjpaa
open Go Go.Eng Go.RowKit
abbrev tS : ByteArray := ⟨#[116]⟩
abbrev uS : ByteArray := ⟨#[117]⟩
abbrev mS : ByteArray := ⟨#[109]⟩
abbrev nS : ByteArray := ⟨#[110]⟩
theorem lTwo (w0 : World) :
    Ct Try.prog 34 #[] w0 fun v w' => (∃ a b p q, v = .tuple #[.slice (some a) 1 1, .slice (some b) 2 2] ∧ Sl w' (some a) [(⟨tS, 3⟩ : Topic)] ∧ Sl w' (some b) [(⟨mS, p, 1, [tS]⟩ : Mem), ⟨nS, q, 1, [tS]⟩] ∧ Sl w' p [tS] ∧ Sl w' q [tS]) ∧ Ext w0 w' := by
  refine Ct.intro2 Try.func34 Try.ntmps34 rfl rfl (by decide) rfl ?_
  have H : Ext w0 w0 := Ext.refl w0
  refine WP.regionS ?_
  refine RL.r (asgL rfl) rfl ?_
  refine RL.r (asgL rfl) rfl ?_
  refine RL.nil ?_
  refine WP.regionS ?_
  refine RL.r (bld rfl rfl) rfl ?_
  refine RL.buildSlice w0.heap.size H.size rfl rfl rfl rfl rfl ?_
  intro w1 i3 hi3 hx hb3
  replace H := H.ext hx; clear hx
  refine RL.buildSlice w0.heap.size H.size rfl rfl rfl rfl rfl ?_
  intro w2 i4 hi4 hx hb4
  replace H := H.ext hx; replace hb3 := hb3.ext hx; clear hx
  refine RL.r (bld rfl rfl) rfl ?_
  refine RL.buildSlice w0.heap.size H.size rfl rfl rfl rfl rfl ?_
  intro w3 i6 hi6 hx hb6
  replace H := H.ext hx; replace hb3 := hb3.ext hx; replace hb4 := hb4.ext hx; clear hx
  refine RL.r (bld rfl rfl) rfl ?_
  refine RL.buildSlice w0.heap.size H.size rfl rfl rfl rfl rfl ?_
  intro w4 i8 hi8 hx hb8
  replace H := H.ext hx; replace hb3 := hb3.ext hx; replace hb4 := hb4.ext hx; replace hb6 := hb6.ext hx; clear hx
  refine RL.r (asgL rfl) rfl ?_
  refine RL.r (asgL rfl) rfl ?_
  refine RL.nil ?_
  refine WP.ret ?_
  refine fin2_ret rfl rfl ⟨⟨_, _, _, _, rfl, Box.sl1 hb3, Box.sl (l := [(⟨mS, some ⟨i4, 0, none⟩, 1, [tS]⟩ : Mem), ⟨nS, some ⟨i6, 0, none⟩, 1, [tS]⟩]) hb8, Box.sl1 hb4, Box.sl1 hb6⟩, H⟩
end Go.Proofs.Ytoebejfffakjpaa
