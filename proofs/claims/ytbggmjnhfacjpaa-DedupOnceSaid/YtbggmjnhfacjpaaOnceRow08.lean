/-
  For every input DedupOnce returns true, and its arguments read behind the call as they read before. No condition.
-/
import Derived.Test.YtbggmjnhfacjpaaOpen08
import Derived.Test.YtbggmjnhfacjpaaOnce08
set_option linter.unusedVariables false
namespace Go.Proofs.Ytbggmjnhfacjpaa
open Go Go.Eng Go.RowKit
open Go.ChangeShapes Go.WideShapes Go.ChangeAt
set_option maxRecDepth 100000 in
theorem dedupOnce_lifted (os : Os) (started : os.Started) (H : Type) (enc : TypeId × Value → H) :
    ReturnsInHanded {} Try.checked os 4 .any (Rows.dedupOnceSpec.pre6 enc Try.prog Try.f4 Rows.dedupOnceRow.domain false) (Rows.dedupOnceSpec.post enc Try.prog Try.f4 false true false false) := by
  refine returnsInHanded_of_change (C := Try.checked) own started (by kernel_rfl) Try.func4
    (ChangeSpec.witness6 (enc := enc) (C := Try.checked) false ⟨#[], #[Value.slice none 0 0, Value.slice none 0 0], []⟩ 8 (by kernel_rfl) (by kernel_rfl) (by kernel_rfl) (by kernel_rfl)) ?_
  intro W base args ds gs before hval hW _ _
  have hW' := hW
  obtain ⟨p, q, hA, hV, rfl, hfz, hnd⟩ := hW
  rw [Try.params4] at hA hval
  obtain ⟨v0, v1, d0, d1, p0, p1, rfl, rfl, rfl, h0, h1⟩ := trodAll_two hA
  obtain ⟨a, c, l, rfl, hl, _⟩ := open_ints (hval 0 22 v0 rfl rfl) h0
  obtain ⟨a2, c2, l2, rfl, hl2, _⟩ := open_ints (hval 1 22 v1 rfl rfl) h1
  refine (lOnce W a c l a2 c2 l2 hl hl2).2.mono fun e W' ⟨v, he, hv, hx⟩ => ?_
  subst he hv
  refine ⟨_, rfl, post_true laidOut (fun t ht => ?_) rfl Try.underlying4 rfl hW' (fun h => ?_) hx⟩
  · rw [Try.params4] at ht
    simp only [List.mem_cons, List.not_mem_nil, or_false] at ht
    rcases ht with rfl | rfl <;> exact ⟨by kernel_rfl, of_decide_eq_true (by kernel_rfl)⟩
  · subst h; exact ⟨rfl, rfl, rfl⟩
theorem dedupOnce_holds : Rows.DedupOnceSaid :=
  OpenClaim.holds_of_wide 4 Try.f4 rfl rfl rfl rfl rfl rfl rfl ⟨rfl, rfl, rfl, rfl, rfl⟩ rfl rfl rfl rfl rfl (by kernel_rfl) Try.func4 (by kernel_rfl)
    (of_decide_eq_true (by kernel_rfl)) (by unfold Func.isWrapper; first | (rw [if_pos (by decide +kernel)]; kernel_rfl) | (rw [if_neg (by decide +kernel)]; exact ⟨rfl, rfl⟩))
    (fun os started H enc _ => dedupOnce_lifted os started H enc)
#print axioms dedupOnce_holds
end Go.Proofs.Ytbggmjnhfacjpaa
