/-
  The names of a map, sorted: maps.Keys, slices.Collect, slices.Sort, slices.Sorted at this seat.
-/
import Derived.Test.YtlkpgeopcdhgjaaSpec
import Derived.Test.YtlkpgeopcdhgjaaSlt
import Derived.Test.YtlkpgeopcdhgjaaPre
import Derived.Test.YtlkpgeopcdhgjaaGrid
set_option linter.unusedVariables false
namespace Go.Proofs.Ytlkpgeopcdhgjaa
open Go Go.Eng Go.RowKit
def layK_ren : Go.Shelf.Ren := ⟨fun | 7 => 60 | 10 => 73 | n => n, fun | 23 => 73 | 26 => 9 | 3 => 31 | 28 => 98 | 0 => 0 | 27 => 97 | 33 => 80 | 4 => 4 | n => n, fun | n => n⟩
theorem layK : Go.Proofs.SlLaysZ.n7 Try.prog layK_ren where
  mixed := by kernel_rfl
  f7 := ⟨Try.f60.name, by kernel_rfl, Try.func60.trans (congrArg some (by kernel_rfl))⟩
  f10 := ⟨Try.f73.name, by kernel_rfl, Try.func73.trans (congrArg some (by kernel_rfl))⟩
  t0 := Try.underlying0
  a0 := Try.isAgg0
  z0 := Try.sizeOf0
  v0 := Try.zeroValue0
  t4 := Try.underlying4
  a4 := Try.isAgg4
  z4 := Try.sizeOf4
  v4 := Try.zeroValue4
  t23 := Try.underlying73
  a23 := Try.isAgg73
  z23 := Try.sizeOf73
  v23 := Try.zeroValue73
  t26 := Try.underlying9
  a26 := Try.isAgg9
  z26 := Try.sizeOf9
  v26 := Try.zeroValue9
  t27 := Try.underlying97
  a27 := Try.isAgg97
  z27 := Try.sizeOf97
  v27 := Try.zeroValue97
  t28 := Try.underlying98
  a28 := Try.isAgg98
  z28 := Try.sizeOf98
  v28 := Try.zeroValue98
  t33 := Try.underlying80
  a33 := Try.isAgg80
  z33 := Try.sizeOf80
  v33 := Try.zeroValue80
def layC_ren : Go.Shelf.Ren := ⟨fun | 8 => 71 | 11 => 78 | n => n, fun | 26 => 9 | 28 => 98 | 24 => 24 | 0 => 0 | 33 => 80 | 4 => 4 | n => n, fun | n => n⟩
theorem layC : Go.Proofs.SlLaysZ.n8 Try.prog layC_ren where
  mixed := by kernel_rfl
  f8 := ⟨Try.f71.name, by kernel_rfl, Try.func71.trans (congrArg some (by kernel_rfl))⟩
  f11 := ⟨Try.f78.name, by kernel_rfl, Try.func78.trans (congrArg some (by kernel_rfl))⟩
  t0 := Try.underlying0
  a0 := Try.isAgg0
  z0 := Try.sizeOf0
  v0 := Try.zeroValue0
  t24 := Try.underlying24
  a24 := Try.isAgg24
  z24 := Try.sizeOf24
  v24 := Try.zeroValue24
  t26 := Try.underlying9
  a26 := Try.isAgg9
  z26 := Try.sizeOf9
  v26 := Try.zeroValue9
  t28 := Try.underlying98
  a28 := Try.isAgg98
  z28 := Try.sizeOf98
  v28 := Try.zeroValue98
  i26 := by kernel_rfl
def layS_ren : Go.Shelf.Ren := ⟨fun | 6 => 72 | 8 => 80 | 9 => 79 | 19 => 93 | 20 => 94 | 21 => 84 | 22 => 85 | 23 => 86 | 24 => 87 | 25 => 88 | 26 => 89 | 27 => 90 | 28 => 91 | 29 => 92 | 36 => 95 | 31 => 96 | 32 => 97 | 37 => 98 | 38 => 99 | 39 => 100 | 41 => 101 | n => n, fun | 27 => 24 | 29 => 9 | 3 => 3 | 32 => 116 | 26 => 24 | 0 => 0 | 44 => 130 | 46 => 132 | 4 => 4 | 36 => 124 | 35 => 123 | 41 => 33 | 5 => 5 | 9 => 9 | 53 => 133 | 57 => 137 | 63 => 139 | 64 => 140 | n => n, fun | n => n⟩
theorem layS : Go.Proofs.SlLaysM.n6 Try.prog layS_ren where
  mixed := by kernel_rfl
  f6 := ⟨Try.f72.name, by kernel_rfl, Try.func72.trans (congrArg some (by kernel_rfl))⟩
  f8 := Try.func80.trans (congrArg some (by kernel_rfl))
  f9 := ⟨Try.f79.name, by kernel_rfl, Try.func79.trans (congrArg some (by kernel_rfl))⟩
  f19 := Try.func93.trans (congrArg some (by kernel_rfl))
  f20 := Try.func94.trans (congrArg some (by kernel_rfl))
  f21 := ⟨Try.f84.name, by kernel_rfl, Try.func84.trans (congrArg some (by kernel_rfl))⟩
  f22 := ⟨Try.f85.name, by kernel_rfl, Try.func85.trans (congrArg some (by kernel_rfl))⟩
  f23 := ⟨Try.f86.name, by kernel_rfl, Try.func86.trans (congrArg some (by kernel_rfl))⟩
  f24 := ⟨Try.f87.name, by kernel_rfl, Try.func87.trans (congrArg some (by kernel_rfl))⟩
  f25 := ⟨Try.f88.name, by kernel_rfl, Try.func88.trans (congrArg some (by kernel_rfl))⟩
  f26 := ⟨Try.f89.name, by kernel_rfl, Try.func89.trans (congrArg some (by kernel_rfl))⟩
  f27 := ⟨Try.f90.name, by kernel_rfl, Try.func90.trans (congrArg some (by kernel_rfl))⟩
  f28 := ⟨Try.f91.name, by kernel_rfl, Try.func91.trans (congrArg some (by kernel_rfl))⟩
  f29 := ⟨Try.f92.name, by kernel_rfl, Try.func92.trans (congrArg some (by kernel_rfl))⟩
  f31 := Try.func96.trans (congrArg some (by kernel_rfl))
  f32 := Try.func97.trans (congrArg some (by kernel_rfl))
  f36 := ⟨Try.f95.name, by kernel_rfl, Try.func95.trans (congrArg some (by kernel_rfl))⟩
  f37 := ⟨Try.f98.name, by kernel_rfl, Try.func98.trans (congrArg some (by kernel_rfl))⟩
  f38 := ⟨Try.f99.name, by kernel_rfl, Try.func99.trans (congrArg some (by kernel_rfl))⟩
  f39 := ⟨Try.f100.name, by kernel_rfl, Try.func100.trans (congrArg some (by kernel_rfl))⟩
  f41 := ⟨Try.f101.name, by kernel_rfl, Try.func101.trans (congrArg some (by kernel_rfl))⟩
  t0 := Try.underlying0
  a0 := Try.isAgg0
  z0 := Try.sizeOf0
  v0 := Try.zeroValue0
  t3 := Try.underlying3
  a3 := Try.isAgg3
  z3 := Try.sizeOf3
  v3 := Try.zeroValue3
  t4 := Try.underlying4
  a4 := Try.isAgg4
  z4 := Try.sizeOf4
  v4 := Try.zeroValue4
  t5 := Try.underlying5
  a5 := Try.isAgg5
  z5 := Try.sizeOf5
  v5 := Try.zeroValue5
  t9 := Try.underlying9
  a9 := Try.isAgg9
  z9 := Try.sizeOf9
  v9 := Try.zeroValue9
  t26 := Try.underlying24
  a26 := Try.isAgg24
  z26 := Try.sizeOf24
  v26 := Try.zeroValue24
  t27 := Try.underlying24
  a27 := Try.isAgg24
  z27 := Try.sizeOf24
  v27 := Try.zeroValue24
  t29 := Try.underlying9
  a29 := Try.isAgg9
  z29 := Try.sizeOf9
  v29 := Try.zeroValue9
  t32 := Try.underlying116
  a32 := Try.isAgg116
  z32 := Try.sizeOf116
  v32 := Try.zeroValue116
  t35 := Try.underlying123
  a35 := Try.isAgg123
  z35 := Try.sizeOf123
  v35 := Try.zeroValue123
  t36 := Try.underlying124
  a36 := Try.isAgg124
  z36 := Try.sizeOf124
  v36 := Try.zeroValue124
  t41 := Try.underlying33
  a41 := Try.isAgg33
  z41 := Try.sizeOf33
  v41 := Try.zeroValue33
  t44 := Try.underlying130
  a44 := Try.isAgg130
  z44 := Try.sizeOf130
  v44 := Try.zeroValue130
  t46 := Try.underlying132
  a46 := Try.isAgg132
  z46 := Try.sizeOf132
  v46 := Try.zeroValue132
  t53 := Try.underlying133
  a53 := Try.isAgg133
  z53 := Try.sizeOf133
  v53 := Try.zeroValue133
  t57 := Try.underlying137
  a57 := Try.isAgg137
  z57 := Try.sizeOf137
  v57 := Try.zeroValue137
  t63 := Try.underlying139
  a63 := Try.isAgg139
  z63 := Try.sizeOf139
  v63 := Try.zeroValue139
  t64 := Try.underlying140
  a64 := Try.isAgg140
  z64 := Try.sizeOf140
  v64 := Try.zeroValue140
theorem kKeys (w0 : World) (mb : Option Nat) :
    Ct Try.prog 60 #[.map mb] w0 fun v w' => (∃ b, v = .func (.func 73) #[] #[.pointer (some ⟨b, 0, none⟩)] ∧ b < w'.heap.size ∧ w'.cell? ⟨b, 0, none⟩ = some (.map mb)) ∧ Ext w0 w' := by
  refine (keys_ct layK w0 mb).mono ?_
  rintro v w' ⟨rfl, rfl⟩
  refine ⟨⟨w0.heap.size, rfl, by simp, ?_⟩, Ext.alloc _ _⟩
  have h := heap_alloc_new w0 (.cells #[.map mb] (layK_ren.t 23))
  have hbx : Box w0.heap.size (w0.alloc (.cells #[.map mb] (layK_ren.t 23))) w0.heap.size (layK_ren.t 23) [.map mb] := ⟨Nat.le_refl _, h⟩
  exact hbx.cell rfl
theorem kCollect (w0 : World) (B m c b : Nat) (lb : List (ByteArray × Value × Nat)) (hm : MpB Try.prog 9 B w0 m lb c) (hsz : ∀ x ∈ lb, x.1.size ≤ maxLen) (hlen : lb.length ≤ 1000000) (hb : b < w0.heap.size) (hc : w0.cell? ⟨b, 0, none⟩ = some (.map (some m))) :
    Ct Try.prog 71 #[.func (.func 73) #[] #[.pointer (some ⟨b, 0, none⟩)]] w0 fun v w' => (∃ (l : List ByteArray) (a : Option Addr) (c' : Nat), v = .slice a l.length c' ∧ l.Perm (lb.map (·.1)) ∧ Own w0.heap.size w' 9 a c' l) ∧ Ext w0 w' := by
  haveI : Und Try.prog (layK_ren.t 26) .string := ⟨layK.t26⟩
  refine (collect_ct layC layK (B := B) (m := m) (c := c) (Bm := b) (lb := lb) hm hsz hlen hb hc).mono ?_
  rintro v w' ⟨l, a, c', h1, h2, h3, h4⟩
  exact ⟨⟨l, a, c', h1, h2, h3⟩, h4⟩
theorem kSort (w0 : World) (B c : Nat) (a : Option Addr) (l : List ByteArray) (ho : Own B w0 9 a c l) (hlen : l.length ≤ 1000000) :
    Ct Try.prog 72 #[.slice a l.length c] w0 fun v w' => (v = .tuple #[] ∧ Own B w' 9 a c (sortB l)) ∧ Upd (inBlock a) w0 w' := by
  refine (sort_ct layS ho hlen).mono ?_
  rintro v w' ⟨rfl, h1, h2⟩
  exact ⟨⟨rfl, h1⟩, h2⟩
theorem kSorted (w0 : World) (B m c b : Nat) (lb : List (ByteArray × Value × Nat)) (hm : MpB Try.prog 9 B w0 m lb c) (hsz : ∀ x ∈ lb, x.1.size ≤ maxLen) (hlen : lb.length ≤ 1000000) (hb : b < w0.heap.size) (hc : w0.cell? ⟨b, 0, none⟩ = some (.map (some m))) :
    Ct Try.prog 59 #[.func (.func 73) #[] #[.pointer (some ⟨b, 0, none⟩)]] w0 fun v w' => (∃ (l : List ByteArray) (a : Option Addr) (c' : Nat), v = .slice a l.length c' ∧ l.Perm (lb.map (·.1)) ∧ Own w0.heap.size w' 9 a c' (sortB l)) ∧ Ext w0 w' := by
  refine Ct.intro1 Try.func59 Try.ntmps59 rfl rfl (by decide) rfl ?_
  have H : Ext w0 w0 := Ext.refl w0
  refine WP.regionS ?_
  refine RL.r (asgL rfl) rfl ?_
  refine RL.nil ?_
  refine WP.regionS ?_
  refine RL.r (mvF rfl) rfl ?_
  -- call slices.Collect[string] (tmp 4)
  refine RL.call (kCollect _ B m c b lb hm hsz hlen hb hc) rfl rfl ?_
  rintro v w1 ⟨⟨l, a5, c5, rfl, hp, hO⟩, hx⟩
  replace H := H.ext hx
  refine RL.r (asgL rfl) rfl ?_
  refine RL.nil ?_
  refine WP.regionS ?_
  refine RL.r (mvL rfl) rfl ?_
  -- call slices.Sort[[]string,string] (tmp 6)
  have hle := hp.length_eq
  rw [List.length_map] at hle
  refine RL.call (kSort _ _ c5 a5 l hO (by omega)) rfl rfl ?_
  rintro _ w2 ⟨⟨rfl, hO2⟩, hx⟩
  replace H := Ext.own H hO hx
  refine RL.nil ?_
  refine WP.regionS ?_
  refine RL.r (mvL rfl) rfl ?_
  refine RL.r (asgL rfl) rfl ?_
  refine RL.nil ?_
  refine WP.ret ?_
  refine fin1_ret rfl ⟨⟨l, a5, c5, rfl, hp, hO2⟩, H⟩
end Go.Proofs.Ytlkpgeopcdhgjaa
