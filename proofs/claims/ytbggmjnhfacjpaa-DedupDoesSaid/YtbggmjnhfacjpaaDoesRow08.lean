/-
  For every input DedupDoes returns true, and its argument reads behind the call as it read before. No condition.
-/
import Derived.Test.YtbggmjnhfacjpaaOpen08
import Derived.Test.YtbggmjnhfacjpaaDoes08
set_option linter.unusedVariables false
namespace Go.Proofs.Ytbggmjnhfacjpaa
open Go Go.Eng Go.RowKit
open Go.ChangeShapes Go.WideShapes Go.ChangeAt
set_option maxRecDepth 100000 in
theorem dedupDoes_lifted (os : Os) (started : os.Started) (H : Type) (enc : TypeId × Value → H) :
    ReturnsInHanded {} Try.checked os 8 .any (Rows.dedupDoesSpec.pre6 enc Try.prog Try.f8 Rows.dedupDoesRow.domain false) (Rows.dedupDoesSpec.post enc Try.prog Try.f8 false true false false) := by
  refine returnsInHanded_of_change (C := Try.checked) own started (by kernel_rfl) Try.func8
    (ChangeSpec.witness6 (enc := enc) (C := Try.checked) false ⟨#[], #[Value.slice none 0 0], []⟩ 8 (by kernel_rfl) (by kernel_rfl) (by kernel_rfl) (by kernel_rfl)) ?_
  intro W base args ds gs before hval hW _ _
  have hW' := hW
  obtain ⟨p, q, hA, hV, rfl, hfz, hnd⟩ := hW
  rw [Try.params8] at hA hval
  obtain ⟨v0, vs0, d0, ds0, p0, q0, hargs, rfl, rfl, h0, r0⟩ := trodAll_cons hA
  obtain ⟨rfl, rfl, rfl⟩ := trodAll_nil r0
  obtain rfl : args = #[v0] := by cases args; simp_all
  obtain ⟨a, c, l, rfl, hl, hb⟩ := open_ops (hval 0 58 v0 rfl rfl) h0
  refine (lDoes W a c l hl hb).2.mono fun e W' ⟨v, he, hv, hx⟩ => ?_
  subst he hv
  refine ⟨_, rfl, post_true laidOut (fun t ht => ?_) rfl Try.underlying4 rfl hW' (fun h => ?_) hx⟩
  · rw [Try.params8] at ht
    simp only [List.mem_cons, List.not_mem_nil, or_false] at ht
    rcases ht with rfl <;> exact ⟨by kernel_rfl, of_decide_eq_true (by kernel_rfl)⟩
  · subst h; exact ⟨rfl, rfl, rfl⟩
theorem dedupDoes_holds : Rows.DedupDoesSaid :=
  OpenClaim.holds_of_wide 8 Try.f8 rfl rfl rfl rfl rfl rfl rfl ⟨rfl, rfl, rfl, rfl, rfl⟩ rfl rfl rfl rfl rfl (by kernel_rfl) Try.func8 (by kernel_rfl)
    (of_decide_eq_true (by kernel_rfl)) (by unfold Func.isWrapper; first | (rw [if_pos (by decide +kernel)]; kernel_rfl) | (rw [if_neg (by decide +kernel)]; exact ⟨rfl, rfl⟩))
    (fun os started H enc _ => dedupDoes_lifted os started H enc)
#print axioms dedupDoes_holds
end Go.Proofs.Ytbggmjnhfacjpaa
