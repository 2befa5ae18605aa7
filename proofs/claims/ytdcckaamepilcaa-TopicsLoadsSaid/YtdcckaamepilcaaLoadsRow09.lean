/-
  For every input TopicsLoads returns true, and its argument reads behind the call as it read before. No condition.
-/
import Derived.Test.YtdcckaamepilcaaOpen09
import Derived.Test.YtdcckaamepilcaaLoadsT09
set_option linter.unusedVariables false
namespace Go.Proofs.Ytdcckaamepilcaa
open Go Go.Eng Go.RowKit
open Go.ChangeShapes Go.WideShapes Go.ChangeAt
set_option maxRecDepth 100000 in
theorem topicsLoads_lifted (os : Os) (started : os.Started) (H : Type) (enc : TypeId × Value → H) :
    ReturnsInHanded {} Try.checked os 3 .any (Rows.topicsLoadsSpec.pre6 enc Try.prog Try.f3 Rows.topicsLoadsRow.domain false) (Rows.topicsLoadsSpec.post enc Try.prog Try.f3 false true false false) := by
  refine returnsInHanded_of_change (C := Try.checked) own started (by kernel_rfl) Try.func3
    (ChangeSpec.witness6 (enc := enc) (C := Try.checked) false ⟨#[], #[Value.slice none 0 0], []⟩ 8 (by kernel_rfl) (by kernel_rfl) (by kernel_rfl) (by kernel_rfl)) ?_
  intro W base args ds gs before hval hW _ _
  have hW' := hW
  obtain ⟨p, q, hA, hV, rfl, hfz, hnd⟩ := hW
  rw [Try.params3] at hA hval
  obtain ⟨v0, vs0, d0, ds0, p0, q0, hargs, rfl, rfl, h0, r0⟩ := trodAll_cons hA
  obtain ⟨rfl, rfl, rfl⟩ := trodAll_nil r0
  obtain rfl : args = #[v0] := by cases args; simp_all
  obtain ⟨a, c, l, rfl, hl⟩ := open_topics (hval 0 22 v0 rfl rfl) h0
  refine (lLoads W a c l hl).2.mono fun e W' ⟨v, he, hv, hx⟩ => ?_
  subst he hv
  refine ⟨_, rfl, post_true laidOut (fun t ht => ?_) rfl Try.underlying4 rfl hW' (fun h => ?_) hx⟩
  · rw [Try.params3] at ht
    simp only [List.mem_cons, List.not_mem_nil, or_false] at ht
    rcases ht with rfl <;> exact ⟨by kernel_rfl, of_decide_eq_true (by kernel_rfl)⟩
  · subst h; exact ⟨rfl, rfl, rfl⟩
theorem topicsLoads_holds : Rows.TopicsLoadsSaid :=
  OpenClaim.holds_of_wide 3 Try.f3 rfl rfl rfl rfl rfl rfl rfl ⟨rfl, rfl, rfl, rfl, rfl⟩ rfl rfl rfl rfl rfl (by kernel_rfl) Try.func3 (by kernel_rfl)
    (of_decide_eq_true (by kernel_rfl)) (by unfold Func.isWrapper; first | (rw [if_pos (by decide +kernel)]; kernel_rfl) | (rw [if_neg (by decide +kernel)]; exact ⟨rfl, rfl⟩))
    (fun os started H enc _ => topicsLoads_lifted os started H enc)
#print axioms topicsLoads_holds
end Go.Proofs.Ytdcckaamepilcaa
