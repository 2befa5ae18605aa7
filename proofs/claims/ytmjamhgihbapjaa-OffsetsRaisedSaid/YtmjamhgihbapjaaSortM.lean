/-
  slices.SortFunc of marks.
-/
import Derived.Test.YtmjamhgihbapjaaSort
import Derived.Test.YtmjamhgihbapjaaTab0
set_option linter.unusedVariables false
namespace Go.Proofs.Ytmjamhgihbapjaa
open Go Go.Eng Go.RowKit
def sortM_ren : Go.Shelf.Ren := ⟨fun | 6 => 31 | 15 => 42 | 14 => 41 | 28 => 56 | 29 => 57 | 20 => 48 | 21 => 49 | 22 => 50 | 23 => 51 | 24 => 52 | 25 => 53 | 26 => 54 | 27 => 55 | 46 => 59 | 47 => 60 | 48 => 61 | 49 => 62 | 50 => 63 | 57 => 65 | n => n, fun | 22 => 22 | 24 => 26 | 25 => 57 | 3 => 3 | 39 => 74 | 0 => 0 | 53 => 87 | 55 => 89 | 4 => 4 | 46 => 81 | 45 => 80 | 50 => 43 | 5 => 5 | 9 => 9 | 66 => 91 | 70 => 95 | 76 => 98 | 77 => 99 | n => n, fun n => n⟩
theorem sortM : Go.Proofs.SlLaysF0.n6 Try.prog sortM_ren where
  mixed := by kernel_rfl
  f6 := ⟨Try.f31.name, by kernel_rfl, Try.func31.trans (congrArg some (by kernel_rfl))⟩
  f14 := ⟨Try.f41.name, by kernel_rfl, Try.func41.trans (congrArg some (by kernel_rfl))⟩
  f15 := Try.func42.trans (congrArg some (by kernel_rfl))
  f20 := ⟨Try.f48.name, by kernel_rfl, Try.func48.trans (congrArg some (by kernel_rfl))⟩
  f21 := ⟨Try.f49.name, by kernel_rfl, Try.func49.trans (congrArg some (by kernel_rfl))⟩
  f22 := ⟨Try.f50.name, by kernel_rfl, Try.func50.trans (congrArg some (by kernel_rfl))⟩
  f23 := ⟨Try.f51.name, by kernel_rfl, Try.func51.trans (congrArg some (by kernel_rfl))⟩
  f24 := ⟨Try.f52.name, by kernel_rfl, Try.func52.trans (congrArg some (by kernel_rfl))⟩
  f25 := ⟨Try.f53.name, by kernel_rfl, Try.func53.trans (congrArg some (by kernel_rfl))⟩
  f26 := ⟨Try.f54.name, by kernel_rfl, Try.func54.trans (congrArg some (by kernel_rfl))⟩
  f27 := ⟨Try.f55.name, by kernel_rfl, Try.func55.trans (congrArg some (by kernel_rfl))⟩
  f28 := Try.func56.trans (congrArg some (by kernel_rfl))
  f29 := Try.func57.trans (congrArg some (by kernel_rfl))
  f46 := ⟨Try.f59.name, by kernel_rfl, Try.func59.trans (congrArg some (by kernel_rfl))⟩
  f47 := Try.func60.trans (congrArg some (by kernel_rfl))
  f48 := Try.func61.trans (congrArg some (by kernel_rfl))
  f49 := ⟨Try.f62.name, by kernel_rfl, Try.func62.trans (congrArg some (by kernel_rfl))⟩
  f50 := ⟨Try.f63.name, by kernel_rfl, Try.func63.trans (congrArg some (by kernel_rfl))⟩
  f57 := ⟨Try.f65.name, by kernel_rfl, Try.func65.trans (congrArg some (by kernel_rfl))⟩
  t0 := Try.underlying0
  a0 := Try.isAgg0
  z0 := Try.sizeOf0
  v0 := Try.zeroValue0
  t3 := Try.underlying3
  a3 := Try.isAgg3
  z3 := Try.sizeOf3
  v3 := Try.zeroValue3
  t4 := Try.underlying4
  a4 := Try.isAgg4
  z4 := Try.sizeOf4
  v4 := Try.zeroValue4
  t5 := Try.underlying5
  a5 := Try.isAgg5
  z5 := Try.sizeOf5
  v5 := Try.zeroValue5
  t9 := Try.underlying9
  a9 := Try.isAgg9
  z9 := Try.sizeOf9
  v9 := Try.zeroValue9
  t22 := Try.underlying22
  a22 := Try.isAgg22
  z22 := Try.sizeOf22
  v22 := Try.zeroValue22
  t25 := Try.underlying57
  a25 := Try.isAgg57
  z25 := Try.sizeOf57
  v25 := Try.zeroValue57
  t39 := Try.underlying74
  a39 := Try.isAgg74
  z39 := Try.sizeOf74
  v39 := Try.zeroValue74
  t45 := Try.underlying80
  a45 := Try.isAgg80
  z45 := Try.sizeOf80
  v45 := Try.zeroValue80
  t46 := Try.underlying81
  a46 := Try.isAgg81
  z46 := Try.sizeOf81
  v46 := Try.zeroValue81
  t50 := Try.underlying43
  a50 := Try.isAgg43
  z50 := Try.sizeOf43
  v50 := Try.zeroValue43
  t53 := Try.underlying87
  a53 := Try.isAgg87
  z53 := Try.sizeOf87
  v53 := Try.zeroValue87
  t55 := Try.underlying89
  a55 := Try.isAgg89
  z55 := Try.sizeOf89
  v55 := Try.zeroValue89
  t66 := Try.underlying91
  a66 := Try.isAgg91
  z66 := Try.sizeOf91
  v66 := Try.zeroValue91
  t70 := Try.underlying95
  a70 := Try.isAgg95
  z70 := Try.sizeOf95
  v70 := Try.zeroValue95
  t76 := Try.underlying98
  a76 := Try.isAgg98
  z76 := Try.sizeOf98
  v76 := Try.zeroValue98
  t77 := Try.underlying99
  a77 := Try.isAgg99
  z77 := Try.sizeOf99
  v77 := Try.zeroValue99
instance : Inhabited Mrk := ⟨⟨ByteArray.empty, ByteArray.empty, 0, 0⟩⟩
theorem swoM : Go.Sort.SWO (Go.Proofs.ltOf ordM) where
  irrefl x := by
    unfold Go.Proofs.ltOf
    exact decide_eq_false (fun h => bef_irrefl _ ((ordM_bef x x).1 h))
  trans x y z h1 h2 := by
    unfold Go.Proofs.ltOf at *
    rw [decide_eq_true_eq, ordM_bef] at *
    exact bef_trans h1 h2
  ntrans x y z h1 h2 := by
    unfold Go.Proofs.ltOf at *
    rw [decide_eq_false_iff_not, ordM_bef] at *
    intro h
    by_cases e : x.key = y.key
    · exact h2 ((bef_congr e rfl).1 h)
    · rcases bef_tri e with h3 | h3
      · exact h1 h3
      · exact h2 (bef_trans h3 h)
theorem pSort (w0 : World) (B : Nat) (a : Option Addr) (c : Nat) (l : List Mrk) (ho : Own B w0 26 a c l) (hlen : l.length ≤ 1000000) :
    Ct Try.prog 31 #[.slice a l.length c, .func (.func 28) #[] #[]] w0 fun v w' => (∃ l' : List Mrk, l'.Perm l ∧ l'.Pairwise (fun x y => ¬ ordM y x < 0) ∧ Own B w' 26 a c l') ∧ Upd (inBlock a) w0 w' :=
  sort_func (α := Mrk) sortM (by decide) Try.isAgg26 Try.sizeOf26 ordM swoM _ (pOrder w0 ⟨ByteArray.empty, ByteArray.empty, 0, 0⟩ ⟨ByteArray.empty, ByteArray.empty, 0, 0⟩).1 (fun W x y => pOrder W x y) ho (by omega)
/-- sorted, of marks with keys of their own: in order -/
theorem sorted_of {S l : List Mrk} (hs : S.Pairwise bef) (hp : l.Perm S) (hl : l.Pairwise fun x y => ¬ ordM y x < 0) : l = S := by
  refine sorted_eq ?_ hs hp
  have hk : (l.map Mrk.key).Nodup := ((hp.map Mrk.key).nodup_iff).2 (sorted_nodup hs)
  have hk2 : l.Pairwise (fun x y => x.key ≠ y.key) := List.pairwise_map.1 hk
  refine (hl.and hk2).imp ?_
  rintro x y ⟨h1, h2⟩
  rw [ordM_bef] at h1
  rcases bef_tri h2 with h | h
  · exact h
  · exact absurd h h1
end Go.Proofs.Ytmjamhgihbapjaa
