/-
  Groups: what they hold, as lists in order.
-/
import Derived.Test.YtlkpgeopcdhgjaaSlt
import Derived.Test.YtlkpgeopcdhgjaaGrp
import Derived.Test.YtlkpgeopcdhgjaaRRobin
import Derived.Test.YtlkpgeopcdhgjaaPre
set_option linter.unusedVariables false
namespace Go.Proofs.Ytlkpgeopcdhgjaa
open Go Go.Eng Go.RowKit
def numB (n : Int) : Prop := 0 ≤ n ∧ n ≤ 1099511627776
instance (n : Int) : Decidable (numB n) := inferInstanceAs (Decidable (_ ∧ _))
def topOk (l : List ByteArray) : Prop := ∀ (i : Nat) (h : i < l.length), nameB l[i] ∧ (0 < i → slt l[i - 1] l[i])
noncomputable instance (l : List ByteArray) : Decidable (topOk l) := Classical.propDecidable _
/-- may a seat be? -/
def mayS (s : St) : Prop := nameB s.name ∧ 1 ≤ s.topics.length ∧ s.topics.length ≤ 8 ∧ topOk s.topics ∧ 1 ≤ s.timeout ∧ numB s.timeout ∧ numB s.seen
noncomputable instance (s : St) : Decidable (mayS s) := inferInstanceAs (Decidable (_ ∧ _))
/-- the state of a group -/
structure Gs where
  gen : Int
  rb : Bool
  S : List St
/-- a state that may be -/
structure okG (G : Gs) : Prop where
  srt : G.S.Pairwise bfr
  may : ∀ x ∈ G.S, mayS x
  len : G.S.length ≤ 8
  num : numB G.gen
theorem okG.nod {G : Gs} (h : okG G) : (G.S.map key).Nodup := srt_nodup h.srt
def g0 : Gs := ⟨0, false, []⟩
theorem okG0 : okG g0 := ⟨List.Pairwise.nil, by simp [g0], by simp [g0], by decide⟩
/-! ### the calls -/
noncomputable def joinE (G : Gs) (s : St) (rb : Bool) : Int := if ¬ mayS s then 1 else if 0 < G.S.length ∧ G.rb ≠ rb then 112 else if 8 ≤ G.S.length ∧ eGet G.S s.name = none ∨ 1099511627776 ≤ G.gen then 2 else 0
noncomputable def joinV (G : Gs) (s : St) (rb : Bool) : Int := if joinE G s rb = 0 then G.gen + 1 else 0
noncomputable def joinG (G : Gs) (s : St) (rb : Bool) : Gs := if joinE G s rb = 0 then ⟨G.gen + 1, rb, ePut G.S s⟩ else G
def fenceE (G : Gs) (name : ByteArray) (gen : Int) : Int := if eGet G.S name = none then 110 else if gen ≠ G.gen then 111 else 0
def beat1 (name : ByteArray) (now : Int) (x : St) : St := if x.name = name then { x with seen := max x.seen now } else x
def beatS (S : List St) (name : ByteArray) (now : Int) : List St := S.map (beat1 name now)
def beatE (G : Gs) (name : ByteArray) (gen now : Int) : Int := if ¬ numB now then 1 else fenceE G name gen
def beatG (G : Gs) (name : ByteArray) (gen now : Int) : Gs := if beatE G name gen now = 0 then { G with S := beatS G.S name now } else G
def nextN (n : Int) : Int := min (n + 1) 1099511627776
def leaveG (G : Gs) (name : ByteArray) (gen : Int) : Gs := if fenceE G name gen = 0 then ⟨nextN G.gen, G.rb, eDel G.S name⟩ else G
def late (now : Int) (x : St) : Bool := decide (x.seen + x.timeout ≤ now)
def expL (G : Gs) (now : Int) : List ByteArray := (G.S.filter (late now)).map St.name
def expS (S : List St) (now : Int) : List St := S.filter fun x => !late now x
def expG (G : Gs) (now : Int) : Gs := ⟨if 0 < (expL G now).length then nextN G.gen else G.gen, G.rb, expS G.S now⟩
theorem nextN_num {n : Int} (h : numB n) : numB (nextN n) := by unfold nextN numB at *; omega
theorem key_beat (name : ByteArray) (now : Int) (x : St) : key (beat1 name now x) = key x := by unfold beat1; split <;> rfl
theorem okG_join {G : Gs} (h : okG G) (s : St) (rb : Bool) : okG (joinG G s rb) := by
  unfold joinG
  split
  · rename_i he
    unfold joinE at he
    split at he
    · cases he
    · rename_i hm
      split at he
      · cases he
      · split at he
        · cases he
        · rename_i hb
          have hn := h.num
          refine ⟨ePut_sorted h.srt s, fun x hx => ?_, ?_, ?_⟩
          · rcases ePut_mem.1 hx with rfl | ⟨h1, _⟩
            · exact Classical.not_not.1 hm
            · exact h.may x h1
          · have hl := ePut_len h.nod s
            have hle := h.len
            cases hq : eGet G.S (key s) with
            | none =>
              rw [hq] at hl
              have : ¬ (8 ≤ G.S.length) := fun h8 => hb (.inl ⟨h8, hq⟩)
              simp only [Option.isSome_none, Bool.false_eq_true, if_false] at hl
              show (ePut G.S s).length ≤ 8
              omega
            | some v =>
              rw [hq] at hl
              simp only [Option.isSome_some, if_true] at hl
              show (ePut G.S s).length ≤ 8
              omega
          · unfold numB at *
            show 0 ≤ G.gen + 1 ∧ G.gen + 1 ≤ 1099511627776
            have : ¬ 1099511627776 ≤ G.gen := fun h9 => hb (.inr h9)
            omega
  · exact h
theorem okG_beat {G : Gs} (h : okG G) (name : ByteArray) (gen now : Int) : okG (beatG G name gen now) := by
  unfold beatG
  split
  · rename_i he
    have hnow : numB now := by
      unfold beatE at he
      split at he
      · cases he
      · rename_i hn; exact Classical.not_not.1 hn
    refine ⟨(srt_map (key_beat name now) _).2 h.srt, fun x hx => ?_, by show (beatS G.S name now).length ≤ 8; unfold beatS; rw [List.length_map]; exact h.len, h.num⟩
    obtain ⟨y, hy, rfl⟩ := List.mem_map.1 hx
    have h1 := h.may y hy
    unfold beat1
    split
    · obtain ⟨a1, a2, a3, a4, a5, a6, a7⟩ := h1
      refine ⟨a1, a2, a3, a4, a5, a6, ?_⟩
      unfold numB at *
      simp only
      omega
    · exact h1
  · exact h
theorem okG_leave {G : Gs} (h : okG G) (name : ByteArray) (gen : Int) : okG (leaveG G name gen) := by
  unfold leaveG
  split
  · exact ⟨eDel_sorted h.srt _, fun x hx => h.may x (eDel_mem.1 hx).1, Nat.le_trans (eDel_le _ _) h.len, nextN_num h.num⟩
  · exact h
theorem okG_exp {G : Gs} (h : okG G) (now : Int) : okG (expG G now) := by
  refine ⟨h.srt.sublist List.filter_sublist, fun x hx => h.may x (List.mem_filter.1 hx).1, Nat.le_trans (List.length_filter_le _ _) h.len, ?_⟩
  show numB (if 0 < (expL G now).length then nextN G.gen else G.gen)
  split
  · exact nextN_num h.num
  · exact h.num
/-! ### rows of topics that a group owns -/
def Owns (B : Nat) (w : World) (H : List Seat) : Prop := ∀ h ∈ H, Own B w 9 h.ta h.tc h.topics
theorem Owns.ext {B : Nat} {w w' : World} {H : List Seat} (h : Owns B w H) (k : Ext w w') : Owns B w' H := fun x hx => (h x hx).ext k
theorem Owns.upd {X : Nat → Prop} {B : Nat} {w w' : World} {H : List Seat} (h : Owns B w H) (k : Upd X w w') (hx : ∀ x ∈ H, ∀ j, inBlock x.ta j → ¬ X j) : Owns B w' H := fun x hm => (h x hm).upd k (hx x hm)
theorem Owns.bx {B B' b : Nat} {w w' : World} {H : List Seat} {T : TypeId} {cs : List Value} (h : Owns B w H) (hb : Box B' w b T cs) (hT : 9 ≠ T) (k : Upd (· = b) w w') : Owns B w' H :=
  h.upd k fun x hx j hj e => (h x hx).box_apart hb hT (e ▸ hj)
theorem Owns.mp {P : Program} {t : TypeId} {K : Type} [DecidableEq K] [KeyT P t K] {lb : List (K × Value × Nat)} {B B' m c : Nat} {w w' : World} {H : List Seat} (h : Owns B w H) (hm : MpB P t B' w m lb c) (k : Upd (· = m) w w') : Owns B w' H :=
  h.upd k fun x hx j hj e => hm.nea (h x hx) (e ▸ hj)
theorem Owns.ow {α : Type} [Lies α] {B B' c : Nat} {w w' : World} {H : List Seat} {T : TypeId} {a : Option Addr} {l : List α} (h : Owns B w H) (ho : Own B' w T a c l) (hT : 9 ≠ T) (k : Upd (inBlock a) w w') : Owns B w' H :=
  h.upd k fun x hx j hj e => (h x hx).apart ho hT hj e
theorem Owns.mono {B B' : Nat} {w : World} {H : List Seat} (h : Owns B w H) (k : B' ≤ B) : Owns B' w H := fun x hx => (h x hx).mono k
theorem Owns.sub {B : Nat} {w : World} {H H' : List Seat} (h : Owns B w H) (k : ∀ x ∈ H', x ∈ H) : Owns B w H' := fun x hx => h x (k x hx)
theorem Owns.put {B : Nat} {w : World} {H : List Seat} {s : Seat} (h : Owns B w H) (hs : Own B w 9 s.ta s.tc s.topics) : Owns B w (ePut H s) := fun x hx => by
  rcases ePut_mem.1 hx with rfl | ⟨h1, _⟩
  · exact hs
  · exact h x h1
theorem Owns.nil (B : Nat) (w : World) : Owns B w [] := fun x hx => by cases hx
/-! ### the group -/
structure Tg (B : Nat) (w : World) (i m : Nat) (G : Gs) : Prop where
  box : Box B w i 75 [.int .i64 G.gen, .bool G.rb, .map (some m)]
  map : ∃ (H : List Seat) (lb : List (ByteArray × Value × Nat)) (c : Nat), MpB Try.prog 9 B w m lb c ∧ Rep lb H ∧ H.map Seat.st = G.S ∧ Owns B w H
  ok : okG G
/-- what a call that turns a group turns -/
def XG (i m k : Nat) : Prop := k = i ∨ k = m
theorem Tg.ext {B i m : Nat} {w w' : World} {G : Gs} (h : Tg B w i m G) (k : Ext w w') : Tg B w' i m G :=
  let ⟨H, lb, c, h1, h2, h3, h4⟩ := h.map
  ⟨h.box.ext k, ⟨H, lb, c, h1.ext k, h2, h3, h4.ext k⟩, h.ok⟩
theorem Tg.old {B i m : Nat} {w : World} {G : Gs} (h : Tg B w i m G) : B ≤ m := let ⟨_, _, _, h3, _⟩ := h.map; h3.old
theorem Tg.lt {B i m : Nat} {w : World} {G : Gs} (h : Tg B w i m G) : m < w.heap.size := let ⟨_, _, _, h3, _⟩ := h.map; h3.blk
theorem Tg.mono {B B' i m : Nat} {w : World} {G : Gs} (h : Tg B w i m G) (k : B' ≤ B) : Tg B' w i m G :=
  let ⟨H, lb, c, h1, h2, h3, h4⟩ := h.map
  ⟨⟨Nat.le_trans k h.box.old, h.box.at_⟩, ⟨H, lb, c, h1.mono k, h2, h3, h4.mono k⟩, h.ok⟩
theorem Tg.neb {B i m : Nat} {w : World} {G : Gs} (h : Tg B w i m G) {B' b : Nat} {T : TypeId} {cs : List Value} (hb : Box B' w b T cs) : b ≠ m := let ⟨_, _, _, h3, _⟩ := h.map; fun e => h3.neb hb e.symm
theorem Tg.nea {α : Type} [Lies α] {B i m : Nat} {w : World} {G : Gs} (h : Tg B w i m G) {B' c' : Nat} {T : TypeId} {a : Option Addr} {l : List α} (ho : Own B' w T a c' l) : ¬ inBlock a m := let ⟨_, _, _, h3, _⟩ := h.map; h3.nea ho
theorem box_nt {B B' b b' : Nat} {w : World} {T T' : TypeId} {cs cs' : List Value} (h : Box B w b T cs) (h' : Box B' w b' T' cs') (hT : T ≠ T') : b ≠ b' := by
  rintro rfl
  have h1 := h.at_
  rw [h'.at_] at h1
  injection h1 with h1
  injection h1 with _ h2
  exact hT h2.symm
theorem Tg.bx {B B' i m b : Nat} {w w' : World} {G : Gs} {T : TypeId} {cs : List Value} (h : Tg B w i m G) (hb : Box B' w b T cs) (hT : 75 ≠ T) (hT' : 9 ≠ T) (k : Upd (· = b) w w') : Tg B w' i m G :=
  let ⟨H, lb, c, h1, h2, h3, h4⟩ := h.map
  ⟨h.box.upd k (box_nt h.box hb hT), ⟨H, lb, c, h1.upd k (h1.neb hb), h2, h3, h4.bx hb hT' k⟩, h.ok⟩
theorem Tg.ow {α : Type} [Lies α] {B B' i m c : Nat} {w w' : World} {G : Gs} {T : TypeId} {a : Option Addr} {l : List α} (h : Tg B w i m G) (ho : Own B' w T a c l) (hT : T ≠ 75) (hT' : 9 ≠ T) (k : Upd (inBlock a) w w') : Tg B w' i m G :=
  let ⟨H, lb, c, h1, h2, h3, h4⟩ := h.map
  ⟨h.box.upd k (ho.box_apart h.box hT), ⟨H, lb, c, h1.upd k (h1.nea ho), h2, h3, h4.ow ho hT' k⟩, h.ok⟩
/-- another group's turn -/
theorem Tg.xg {B B' i m i' m' : Nat} {w w' : World} {G G' : Gs} (h : Tg B w i m G) (h' : Tg B' w i' m' G') (hi : i ≠ i') (hm : m ≠ m') (k : Upd (XG i' m') w w') : Tg B w' i m G := by
  obtain ⟨H, lb, c, h1, h2, h3, h4⟩ := h.map
  obtain ⟨H', lb', c', h1', _⟩ := h'.map
  refine ⟨h.box.upd k ?_, ⟨H, lb, c, h1.upd k ?_, h2, h3, h4.upd k ?_⟩, h.ok⟩
  · rintro (e | e)
    · exact hi e
    · exact h1'.neb h.box e.symm
  · rintro (e | e)
    · exact h1.neb h'.box e
    · exact hm e
  · rintro x hx j hj (e | e)
    · exact (h4 x hx).box_apart h'.box (by decide) (e ▸ hj)
    · exact h1'.nea (h4 x hx) (e ▸ hj)
theorem box_xg {B B' i m b : Nat} {w w' : World} {G : Gs} {T : TypeId} {cs : List Value} (h : Box B' w b T cs) (hT : Tg B w i m G) (ht : T ≠ 75) (k : Upd (XG i m) w w') : Box B' w' b T cs := by
  refine h.upd k ?_
  rintro (e | e)
  · exact box_nt h hT.box ht e
  · exact hT.neb h e
theorem own_xg {α : Type} [Lies α] {B B' i m c : Nat} {w w' : World} {G : Gs} {T : TypeId} {a : Option Addr} {l : List α} (h : Own B' w T a c l) (hT : Tg B w i m G) (ht : T ≠ 75) (k : Upd (XG i m) w w') : Own B' w' T a c l := by
  refine h.upd k ?_
  rintro j hj (e | e)
  · exact h.box_apart hT.box ht (e ▸ hj)
  · exact hT.nea h (e ▸ hj)
theorem xg_old {B i m n : Nat} {w : World} {G : Gs} (h : Tg B w i m G) (hn : n ≤ B) : ∀ k, XG i m k → n ≤ k := by
  rintro k (rfl | rfl)
  · exact Nat.le_trans hn h.box.old
  · exact Nat.le_trans hn h.old
theorem pNum (w0 : World) (n : Int) :
    Ct Try.prog 47 #[.int .i64 n] w0 fun v w' => v = .bool (decide (numB n)) ∧ Ext w0 w' := by
  refine Ct.intro1 Try.func47 Try.ntmps47 rfl rfl (by decide) rfl ?_
  have H : Ext w0 w0 := Ext.refl w0
  refine WP.regionS ?_
  refine RL.r (asgB rfl) rfl ?_
  refine RL.nil ?_
  refine WP.seq (WP.quiet ?_)
  refine QL.r (mvI rfl) rfl ?_
  refine QL.r (geq rfl rfl) rfl ?_
  refine QL.r (mvB rfl) rfl ?_
  refine QL.gg (gwT rfl rfl) (fun hg => (mvI rfl).does _) rfl ?_
  refine QL.gg (gwT rfl rfl) (fun hg => (leq (gs hg rfl) rfl).does _) rfl ?_
  refine QL.r (pickAnd rfl (fun hn => gs hn rfl)) rfl ?_
  refine QL.r (asgB rfl) rfl ?_
  refine QL.nil ?_; intro w1 hx; replace H := H.ext hx
  refine WP.ret ?_
  refine fin1_ret rfl ⟨rfl, H⟩
theorem rNum (w0 : World) (n : Int) :
    Ct Try.prog 48 #[.int .i64 n] w0 fun v w' => v = .bool (decide (numB n)) ∧ Ext w0 w' := by
  refine Ct.intro1 Try.func48 Try.ntmps48 rfl rfl (by decide) rfl ?_
  have H : Ext w0 w0 := Ext.refl w0
  refine WP.regionS ?_
  refine RL.r (asgB rfl) rfl ?_
  refine RL.nil ?_
  refine WP.seq (WP.quiet ?_)
  refine QL.r (mvI rfl) rfl ?_
  refine QL.r (geq rfl rfl) rfl ?_
  refine QL.r (mvB rfl) rfl ?_
  refine QL.gg (gwT rfl rfl) (fun hg => (mvI rfl).does _) rfl ?_
  refine QL.gg (gwT rfl rfl) (fun hg => (leq (gs hg rfl) rfl).does _) rfl ?_
  refine QL.r (pickAnd rfl (fun hn => gs hn rfl)) rfl ?_
  refine QL.r (asgB rfl) rfl ?_
  refine QL.nil ?_; intro w1 hx; replace H := H.ext hx
  refine WP.ret ?_
  refine fin1_ret rfl ⟨rfl, H⟩
end Go.Proofs.Ytlkpgeopcdhgjaa
