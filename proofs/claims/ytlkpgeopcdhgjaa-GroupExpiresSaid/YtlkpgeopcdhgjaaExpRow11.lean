/-
  For every input GroupExpires returns true, and each argument reads behind the call as it read before. No condition.
-/
import Derived.Test.YtlkpgeopcdhgjaaOpen11
import Derived.Test.YtlkpgeopcdhgjaaExp11
set_option linter.unusedVariables false
namespace Go.Proofs.Ytlkpgeopcdhgjaa
open Go Go.Eng Go.RowKit
open Go.ChangeShapes Go.WideShapes Go.ChangeAt
set_option maxRecDepth 100000 in
theorem groupExpires_lifted (os : Os) (started : os.Started) (H : Type) (enc : TypeId × Value → H) :
    ReturnsInHanded {} Try.checked os 8 .any (Rows.groupExpiresSpec.pre6 enc Try.prog Try.f8 Rows.groupExpiresRow.domain false) (Rows.groupExpiresSpec.post enc Try.prog Try.f8 false true false false) := by
  refine returnsInHanded_of_change (C := Try.checked) own started (by kernel_rfl) Try.func8
    (ChangeSpec.witness6 (enc := enc) (C := Try.checked) false ⟨#[], #[Value.slice none 0 0, Value.int .i64 0], []⟩ 8 (by kernel_rfl) (by kernel_rfl) (by kernel_rfl) (by kernel_rfl)) ?_
  intro W base args ds gs before hval hW _ _
  have hW' := hW
  obtain ⟨p, q, hA, hV, rfl, hfz, hnd⟩ := hW
  rw [Try.params8] at hA hval
  obtain ⟨v0, v1, d0, d1, p0, p1, rfl, rfl, rfl, h0, h1⟩ := trodAll_two hA
  obtain ⟨a, c, l, rfl, hl⟩ := open_ints (hval 0 71 v0 rfl rfl) h0
  obtain ⟨n, rfl, _⟩ := open_int (hval 1 3 v1 rfl rfl) h1
  refine (lExpires W a c l n hl).2.mono fun e W' ⟨v, he, hv, hx⟩ => ?_
  subst he hv
  refine ⟨_, rfl, post_true laidOut (fun t ht => ?_) rfl Try.underlying4 rfl hW' (fun h => ?_) hx⟩
  · rw [Try.params8] at ht
    simp only [List.mem_cons, List.not_mem_nil, or_false] at ht
    rcases ht with rfl | rfl <;> exact ⟨by kernel_rfl, of_decide_eq_true (by kernel_rfl)⟩
  · subst h; exact ⟨rfl, rfl, rfl⟩
theorem groupExpires_holds : Rows.GroupExpiresSaid :=
  OpenClaim.holds_of_wide 8 Try.f8 rfl rfl rfl rfl rfl rfl rfl ⟨rfl, rfl, rfl, rfl, rfl⟩ rfl rfl rfl rfl rfl (by kernel_rfl) Try.func8 (by kernel_rfl)
    (of_decide_eq_true (by kernel_rfl)) (by unfold Func.isWrapper; first | (rw [if_pos (by decide +kernel)]; kernel_rfl) | (rw [if_neg (by decide +kernel)]; exact ⟨rfl, rfl⟩))
    (fun os started H enc _ => groupExpires_lifted os started H enc)
#print axioms groupExpires_holds
end Go.Proofs.Ytlkpgeopcdhgjaa
