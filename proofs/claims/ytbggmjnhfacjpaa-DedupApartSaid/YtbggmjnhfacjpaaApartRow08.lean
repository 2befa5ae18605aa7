/-
  For every input DedupApart returns true, and its arguments read behind the call as they read before. No condition.
-/
import Derived.Test.YtbggmjnhfacjpaaOpen08
import Derived.Test.YtbggmjnhfacjpaaApart08
set_option linter.unusedVariables false
namespace Go.Proofs.Ytbggmjnhfacjpaa
open Go Go.Eng Go.RowKit
open Go.ChangeShapes Go.WideShapes Go.ChangeAt
set_option maxRecDepth 100000 in
theorem dedupApart_lifted (os : Os) (started : os.Started) (H : Type) (enc : TypeId × Value → H) :
    ReturnsInHanded {} Try.checked os 6 .any (Rows.dedupApartSpec.pre6 enc Try.prog Try.f6 Rows.dedupApartRow.domain false) (Rows.dedupApartSpec.post enc Try.prog Try.f6 false true false false) := by
  refine returnsInHanded_of_change (C := Try.checked) own started (by kernel_rfl) Try.func6
    (ChangeSpec.witness6 (enc := enc) (C := Try.checked) false ⟨#[], #[Value.slice none 0 0, Value.agg #[.string ByteArray.empty, .int .i64 0, .string ByteArray.empty, .int .i64 0]], []⟩ 8 (by kernel_rfl) (by kernel_rfl) (by kernel_rfl) (by kernel_rfl)) ?_
  intro W base args ds gs before hval hW _ _
  have hW' := hW
  obtain ⟨p, q, hA, hV, rfl, hfz, hnd⟩ := hW
  rw [Try.params6] at hA hval
  obtain ⟨v0, v1, d0, d1, p0, p1, rfl, rfl, rfl, h0, h1⟩ := trodAll_two hA
  obtain ⟨a, c, l, rfl, hl, _⟩ := open_ints (hval 0 22 v0 rfl rfl) h0
  obtain ⟨x, rfl⟩ := open_two (hval 1 55 v1 rfl rfl) h1
  refine (lApart W a c l x hl).2.mono fun e W' ⟨v, he, hv, hx⟩ => ?_
  subst he hv
  refine ⟨_, rfl, post_true laidOut (fun t ht => ?_) rfl Try.underlying4 rfl hW' (fun h => ?_) hx⟩
  · rw [Try.params6] at ht
    simp only [List.mem_cons, List.not_mem_nil, or_false] at ht
    rcases ht with rfl | rfl <;> exact ⟨by kernel_rfl, of_decide_eq_true (by kernel_rfl)⟩
  · subst h; exact ⟨rfl, rfl, rfl⟩
theorem dedupApart_holds : Rows.DedupApartSaid :=
  OpenClaim.holds_of_wide 6 Try.f6 rfl rfl rfl rfl rfl rfl rfl ⟨rfl, rfl, rfl, rfl, rfl⟩ rfl rfl rfl rfl rfl (by kernel_rfl) Try.func6 (by kernel_rfl)
    (of_decide_eq_true (by kernel_rfl)) (by unfold Func.isWrapper; first | (rw [if_pos (by decide +kernel)]; kernel_rfl) | (rw [if_neg (by decide +kernel)]; exact ⟨rfl, rfl⟩))
    (fun os started H enc _ => dedupApart_lifted os started H enc)
#print axioms dedupApart_holds
end Go.Proofs.Ytbggmjnhfacjpaa
