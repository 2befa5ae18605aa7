/-
  The names of a map, sorted: maps.Keys, slices.Collect, slices.Sort, slices.Sorted at this seat.
-/
import Derived.Test.YtdcckaamepilcaaSpec
import Derived.Test.YtdcckaamepilcaaSlt
import Derived.Test.YtdcckaamepilcaaPre
import Derived.Test.YtdcckaamepilcaaGrid
set_option linter.unusedVariables false
namespace Go.Proofs.Ytdcckaamepilcaa
open Go Go.Eng Go.RowKit
def layK_ren : Go.Shelf.Ren := ⟨fun | 7 => 33 | 10 => 42 | n => n, fun | 23 => 58 | 26 => 9 | 3 => 3 | 28 => 63 | 0 => 0 | 27 => 62 | 33 => 70 | 4 => 4 | n => n, fun | n => n⟩
theorem layK : Go.Proofs.SlLaysZ.n7 Try.prog layK_ren where
  mixed := by kernel_rfl
  f7 := ⟨Try.f33.name, by kernel_rfl, Try.func33.trans (congrArg some (by kernel_rfl))⟩
  f10 := ⟨Try.f42.name, by kernel_rfl, Try.func42.trans (congrArg some (by kernel_rfl))⟩
  t0 := Try.underlying0
  a0 := Try.isAgg0
  z0 := Try.sizeOf0
  v0 := Try.zeroValue0
  t4 := Try.underlying4
  a4 := Try.isAgg4
  z4 := Try.sizeOf4
  v4 := Try.zeroValue4
  t23 := Try.underlying58
  a23 := Try.isAgg58
  z23 := Try.sizeOf58
  v23 := Try.zeroValue58
  t26 := Try.underlying9
  a26 := Try.isAgg9
  z26 := Try.sizeOf9
  v26 := Try.zeroValue9
  t27 := Try.underlying62
  a27 := Try.isAgg62
  z27 := Try.sizeOf62
  v27 := Try.zeroValue62
  t28 := Try.underlying63
  a28 := Try.isAgg63
  z28 := Try.sizeOf63
  v28 := Try.zeroValue63
  t33 := Try.underlying70
  a33 := Try.isAgg70
  z33 := Try.sizeOf70
  v33 := Try.zeroValue70

def layC_ren : Go.Shelf.Ren := ⟨fun | 8 => 32 | 11 => 41 | n => n, fun | 26 => 9 | 28 => 63 | 24 => 42 | 0 => 0 | 33 => 70 | 4 => 4 | n => n, fun | n => n⟩
theorem layC : Go.Proofs.SlLaysZ.n8 Try.prog layC_ren where
  mixed := by kernel_rfl
  f8 := ⟨Try.f32.name, by kernel_rfl, Try.func32.trans (congrArg some (by kernel_rfl))⟩
  f11 := ⟨Try.f41.name, by kernel_rfl, Try.func41.trans (congrArg some (by kernel_rfl))⟩
  t0 := Try.underlying0
  a0 := Try.isAgg0
  z0 := Try.sizeOf0
  v0 := Try.zeroValue0
  t24 := Try.underlying42
  a24 := Try.isAgg42
  z24 := Try.sizeOf42
  v24 := Try.zeroValue42
  t26 := Try.underlying9
  a26 := Try.isAgg9
  z26 := Try.sizeOf9
  v26 := Try.zeroValue9
  t28 := Try.underlying63
  a28 := Try.isAgg63
  z28 := Try.sizeOf63
  v28 := Try.zeroValue63
  i26 := by kernel_rfl

def layS_ren : Go.Shelf.Ren := ⟨fun | 6 => 34 | 8 => 44 | 9 => 43 | 19 => 59 | 20 => 60 | 21 => 50 | 22 => 51 | 23 => 52 | 24 => 53 | 25 => 54 | 26 => 55 | 27 => 56 | 28 => 57 | 29 => 58 | 36 => 62 | 31 => 63 | 32 => 64 | 37 => 65 | 38 => 66 | 39 => 67 | 41 => 69 | n => n, fun | 27 => 42 | 29 => 9 | 3 => 3 | 32 => 74 | 26 => 42 | 0 => 0 | 44 => 87 | 46 => 89 | 4 => 4 | 36 => 81 | 35 => 80 | 41 => 67 | 5 => 5 | 9 => 9 | 53 => 91 | 57 => 95 | 63 => 98 | 64 => 99 | n => n, fun | n => n⟩
theorem layS : Go.Proofs.SlLaysM.n6 Try.prog layS_ren where
  mixed := by kernel_rfl
  f6 := ⟨Try.f34.name, by kernel_rfl, Try.func34.trans (congrArg some (by kernel_rfl))⟩
  f8 := Try.func44.trans (congrArg some (by kernel_rfl))
  f9 := ⟨Try.f43.name, by kernel_rfl, Try.func43.trans (congrArg some (by kernel_rfl))⟩
  f19 := Try.func59.trans (congrArg some (by kernel_rfl))
  f20 := Try.func60.trans (congrArg some (by kernel_rfl))
  f21 := ⟨Try.f50.name, by kernel_rfl, Try.func50.trans (congrArg some (by kernel_rfl))⟩
  f22 := ⟨Try.f51.name, by kernel_rfl, Try.func51.trans (congrArg some (by kernel_rfl))⟩
  f23 := ⟨Try.f52.name, by kernel_rfl, Try.func52.trans (congrArg some (by kernel_rfl))⟩
  f24 := ⟨Try.f53.name, by kernel_rfl, Try.func53.trans (congrArg some (by kernel_rfl))⟩
  f25 := ⟨Try.f54.name, by kernel_rfl, Try.func54.trans (congrArg some (by kernel_rfl))⟩
  f26 := ⟨Try.f55.name, by kernel_rfl, Try.func55.trans (congrArg some (by kernel_rfl))⟩
  f27 := ⟨Try.f56.name, by kernel_rfl, Try.func56.trans (congrArg some (by kernel_rfl))⟩
  f28 := ⟨Try.f57.name, by kernel_rfl, Try.func57.trans (congrArg some (by kernel_rfl))⟩
  f29 := ⟨Try.f58.name, by kernel_rfl, Try.func58.trans (congrArg some (by kernel_rfl))⟩
  f31 := Try.func63.trans (congrArg some (by kernel_rfl))
  f32 := Try.func64.trans (congrArg some (by kernel_rfl))
  f36 := ⟨Try.f62.name, by kernel_rfl, Try.func62.trans (congrArg some (by kernel_rfl))⟩
  f37 := ⟨Try.f65.name, by kernel_rfl, Try.func65.trans (congrArg some (by kernel_rfl))⟩
  f38 := ⟨Try.f66.name, by kernel_rfl, Try.func66.trans (congrArg some (by kernel_rfl))⟩
  f39 := ⟨Try.f67.name, by kernel_rfl, Try.func67.trans (congrArg some (by kernel_rfl))⟩
  f41 := ⟨Try.f69.name, by kernel_rfl, Try.func69.trans (congrArg some (by kernel_rfl))⟩
  t0 := Try.underlying0
  a0 := Try.isAgg0
  z0 := Try.sizeOf0
  v0 := Try.zeroValue0
  t3 := Try.underlying3
  a3 := Try.isAgg3
  z3 := Try.sizeOf3
  v3 := Try.zeroValue3
  t4 := Try.underlying4
  a4 := Try.isAgg4
  z4 := Try.sizeOf4
  v4 := Try.zeroValue4
  t5 := Try.underlying5
  a5 := Try.isAgg5
  z5 := Try.sizeOf5
  v5 := Try.zeroValue5
  t9 := Try.underlying9
  a9 := Try.isAgg9
  z9 := Try.sizeOf9
  v9 := Try.zeroValue9
  t26 := Try.underlying42
  a26 := Try.isAgg42
  z26 := Try.sizeOf42
  v26 := Try.zeroValue42
  t27 := Try.underlying42
  a27 := Try.isAgg42
  z27 := Try.sizeOf42
  v27 := Try.zeroValue42
  t29 := Try.underlying9
  a29 := Try.isAgg9
  z29 := Try.sizeOf9
  v29 := Try.zeroValue9
  t32 := Try.underlying74
  a32 := Try.isAgg74
  z32 := Try.sizeOf74
  v32 := Try.zeroValue74
  t35 := Try.underlying80
  a35 := Try.isAgg80
  z35 := Try.sizeOf80
  v35 := Try.zeroValue80
  t36 := Try.underlying81
  a36 := Try.isAgg81
  z36 := Try.sizeOf81
  v36 := Try.zeroValue81
  t41 := Try.underlying67
  a41 := Try.isAgg67
  z41 := Try.sizeOf67
  v41 := Try.zeroValue67
  t44 := Try.underlying87
  a44 := Try.isAgg87
  z44 := Try.sizeOf87
  v44 := Try.zeroValue87
  t46 := Try.underlying89
  a46 := Try.isAgg89
  z46 := Try.sizeOf89
  v46 := Try.zeroValue89
  t53 := Try.underlying91
  a53 := Try.isAgg91
  z53 := Try.sizeOf91
  v53 := Try.zeroValue91
  t57 := Try.underlying95
  a57 := Try.isAgg95
  z57 := Try.sizeOf95
  v57 := Try.zeroValue95
  t63 := Try.underlying98
  a63 := Try.isAgg98
  z63 := Try.sizeOf98
  v63 := Try.zeroValue98
  t64 := Try.underlying99
  a64 := Try.isAgg99
  z64 := Try.sizeOf99
  v64 := Try.zeroValue99
theorem kKeys (w0 : World) (mb : Option Nat) :
    Ct Try.prog 33 #[.map mb] w0 fun v w' => (∃ b, v = .func (.func 42) #[] #[.pointer (some ⟨b, 0, none⟩)] ∧ b < w'.heap.size ∧ w'.cell? ⟨b, 0, none⟩ = some (.map mb)) ∧ Ext w0 w' := by
  refine (keys_ct layK w0 mb).mono ?_
  rintro v w' ⟨rfl, rfl⟩
  refine ⟨⟨w0.heap.size, rfl, by simp, ?_⟩, Ext.alloc _ _⟩
  have h := heap_alloc_new w0 (.cells #[.map mb] (layK_ren.t 23))
  have hbx : Box w0.heap.size (w0.alloc (.cells #[.map mb] (layK_ren.t 23))) w0.heap.size (layK_ren.t 23) [.map mb] := ⟨Nat.le_refl _, h⟩
  exact hbx.cell rfl
theorem kCollect (w0 : World) (B m c b : Nat) (lb : List (ByteArray × Value × Nat)) (hm : MpB Try.prog 9 B w0 m lb c) (hsz : ∀ x ∈ lb, x.1.size ≤ maxLen) (hlen : lb.length ≤ 1000000) (hb : b < w0.heap.size) (hc : w0.cell? ⟨b, 0, none⟩ = some (.map (some m))) :
    Ct Try.prog 32 #[.func (.func 42) #[] #[.pointer (some ⟨b, 0, none⟩)]] w0 fun v w' => (∃ (l : List ByteArray) (a : Option Addr) (c' : Nat), v = .slice a l.length c' ∧ l.Perm (lb.map (·.1)) ∧ Eng.Own w0.heap.size w' 9 a c' l) ∧ Ext w0 w' := by
  haveI : Und Try.prog (layK_ren.t 26) .string := ⟨layK.t26⟩
  refine (collect_ct layC layK (B := B) (m := m) (c := c) (Bm := b) (lb := lb) hm hsz hlen hb hc).mono ?_
  rintro v w' ⟨l, a, c', h1, h2, h3, h4⟩
  exact ⟨⟨l, a, c', h1, h2, h3⟩, h4⟩
theorem kSort (w0 : World) (B c : Nat) (a : Option Addr) (l : List ByteArray) (ho : Eng.Own B w0 9 a c l) (hlen : l.length ≤ 1000000) :
    Ct Try.prog 34 #[.slice a l.length c] w0 fun v w' => (v = .tuple #[] ∧ Eng.Own B w' 9 a c (sortB l)) ∧ Upd (inBlock a) w0 w' := by
  refine (sort_ct layS ho hlen).mono ?_
  rintro v w' ⟨rfl, h1, h2⟩
  exact ⟨⟨rfl, h1⟩, h2⟩
end Go.Proofs.Ytdcckaamepilcaa
