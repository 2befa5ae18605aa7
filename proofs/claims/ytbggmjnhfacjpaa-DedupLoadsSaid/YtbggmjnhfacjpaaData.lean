/-
  The data of these chapters.
-/
import Derived.Test.YtbggmjnhfacjpaaFn
namespace Go.Eng
open Go

instance : Lies ByteArray := ⟨1, fun s => [.string s], fun _ => rfl⟩
instance : Lies Int := ⟨1, fun n => [.int .i64 n], fun _ => rfl⟩
structure Topic where
  name : ByteArray
  n : Int
deriving DecidableEq
structure Part where
  topic : ByteArray
  n : Int
deriving DecidableEq
instance : Lies Topic := ⟨2, fun p => [.string p.name, .int .i64 p.n], fun _ => rfl⟩
instance : Lies Part := ⟨2, fun p => [.string p.topic, .int .i64 p.n], fun _ => rfl⟩
/-- each cell holds a single value -/
class One (α : Type) [Lies α] : Prop where
  h : ∀ (y : α) v, v ∈ Lies.enc y → v.oneCell' = true
theorem cell1 {α : Type} [Lies α] [h : One α] : ∀ (y : α) v, v ∈ Lies.enc y → v.oneCell' = true := h.h
/-- a row inside a row: its header -/
structure Rw (α : Type) where
  a : Option Addr
  c : Nat
  l : List α
instance {α : Type} : Lies (Rw α) := ⟨1, fun r => [.slice r.a r.l.length r.c], fun _ => rfl⟩
/-- a member, and where its topics lie -/
structure Mem where
  name : ByteArray
  ta : Option Addr
  tc : Nat
  topics : List ByteArray
instance : Lies Mem := ⟨2, fun m => [.string m.name, .slice m.ta m.topics.length m.tc], fun _ => rfl⟩
instance : One ByteArray := ⟨fun y v hv => by simp only [Lies.enc, List.mem_cons, List.not_mem_nil, or_false] at hv; subst hv; rfl⟩
instance : One Int := ⟨fun y v hv => by simp only [Lies.enc, List.mem_cons, List.not_mem_nil, or_false] at hv; subst hv; rfl⟩
instance {α : Type} : One (Rw α) := ⟨fun y v hv => by simp only [Lies.enc, List.mem_cons, List.not_mem_nil, or_false] at hv; subst hv; rfl⟩
instance : One Topic := ⟨fun y v hv => by simp only [Lies.enc, List.mem_cons, List.not_mem_nil, or_false] at hv; rcases hv with rfl | rfl <;> rfl⟩
instance : One Part := ⟨fun y v hv => by simp only [Lies.enc, List.mem_cons, List.not_mem_nil, or_false] at hv; rcases hv with rfl | rfl <;> rfl⟩
instance : One Mem := ⟨fun y v hv => by simp only [Lies.enc, List.mem_cons, List.not_mem_nil, or_false] at hv; rcases hv with rfl | rfl <;> rfl⟩
structure Mrk where
  group : ByteArray
  topic : ByteArray
  n : Int
  off : Int
deriving DecidableEq
structure MKey where
  group : ByteArray
  topic : ByteArray
  n : Int
deriving DecidableEq
instance : Lies Mrk := ⟨4, fun m => [.string m.group, .string m.topic, .int .i64 m.n, .int .i64 m.off], fun _ => rfl⟩
instance : Lies MKey := ⟨3, fun m => [.string m.group, .string m.topic, .int .i64 m.n], fun _ => rfl⟩
instance : One Mrk := ⟨fun y v hv => by simp only [Lies.enc, List.mem_cons, List.not_mem_nil, or_false] at hv; rcases hv with rfl | rfl | rfl | rfl <;> rfl⟩
structure Seat where
  name : ByteArray
  ta : Option Addr
  tc : Nat
  topics : List ByteArray
  timeout : Int
  seen : Int
instance : Lies Seat := ⟨4, fun s => [.string s.name, .slice s.ta s.topics.length s.tc, .int .i64 s.timeout, .int .i64 s.seen], fun _ => rfl⟩
instance : One Seat := ⟨fun y v hv => by simp only [Lies.enc, List.mem_cons, List.not_mem_nil, or_false] at hv; rcases hv with rfl | rfl | rfl | rfl <;> rfl⟩
structure MOp where
  kind : Int
  m : Mrk
instance : Lies MOp := ⟨5, fun o => .int .i64 o.kind :: Lies.enc o.m, fun _ => rfl⟩
instance : One MOp := ⟨fun y v hv => by simp only [Lies.enc, List.mem_cons, List.not_mem_nil, or_false] at hv; rcases hv with rfl | rfl | rfl | rfl | rfl <;> rfl⟩
def Mrk.key (m : Mrk) : MKey := ⟨m.group, m.topic, m.n⟩
def Mem.wants (m : Mem) (t : ByteArray) : Bool := m.topics.any fun s => decide (s = t)
theorem Mem.wants_iff (m : Mem) (t : ByteArray) : m.wants t = true ↔ t ∈ m.topics := by simp [Mem.wants]
end Go.Eng
