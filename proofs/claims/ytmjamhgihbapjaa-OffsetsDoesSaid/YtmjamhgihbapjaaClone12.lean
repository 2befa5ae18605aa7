/-
  maps.Clone at this seat.
-/
import Derived.Test.YtmjamhgihbapjaaTab0
import Derived.Shelf.SlMaps.Clone
set_option linter.unusedVariables false
namespace Go.Proofs.Ytmjamhgihbapjaa
open Go Go.Eng Go.RowKit
def cloneM_ren : Go.Shelf.Ren := ⟨fun | 5 => 33 | 7 => 43 | n => n, fun | 23 => 58 | 25 => 62 | 3 => 3 | 4 => 4 | 20 => 20 | n => n, fun n => n⟩
theorem cloneM : Go.Proofs.SlLaysW.n5 Try.prog cloneM_ren where
  mixed := by kernel_rfl
  f5 := ⟨Try.f33.name, by kernel_rfl, Try.func33.trans (congrArg some (by kernel_rfl))⟩
  f7 := Try.func43.trans (congrArg some (by kernel_rfl))
  t4 := Try.underlying4
  a4 := Try.isAgg4
  z4 := Try.sizeOf4
  v4 := Try.zeroValue4
  t20 := Try.underlying20
  a20 := Try.isAgg20
  z20 := Try.sizeOf20
  v20 := Try.zeroValue20
  t23 := Try.underlying58
  a23 := Try.isAgg58
  z23 := Try.sizeOf58
  v23 := Try.zeroValue58
theorem pClone (w0 : World) (B m : Nat) (lb : List (MKey × Value × Nat)) (c : Nat) (hm : MpB Try.prog 62 B w0 m lb c) :
    Ct Try.prog 33 #[.map (some m)] w0 fun v w' => (∃ m2, v = .map (some m2) ∧ MpB Try.prog 62 w0.heap.size w' m2 lb c) ∧ Ext w0 w' := by
  obtain ⟨es, h1, h2⟩ := hm.at_
  refine ⟨cloneM.f5.enters rfl, ?_⟩
  refine (Go.Proofs.AnyW.maps_Clone cloneM m es c w0 h1).mono ?_
  rintro e w' ⟨rfl, rfl⟩
  exact ⟨_, rfl, ⟨_, rfl, Nat.le_refl _, hm.nod, ⟨es, heap_alloc_new w0 _, h2⟩, hm.lt, hm.nob⟩, Ext.alloc _ _⟩
end Go.Proofs.Ytmjamhgihbapjaa
