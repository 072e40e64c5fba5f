/- A machine's own cells. No condition. -/
import Derived.Test.YthhfkhhhclmimaaGreatDoorMWHeadE
set_option linter.unusedVariables false
set_option linter.unusedSimpArgs false
namespace Go.Proofs.Shed
open Go Go.RowKit Go.Proofs.K
def optP (o : Option Nat) : Value := .pointer (o.map fun n => ⟨n, 0, none⟩)
/-- A machine's cells. -/
structure Mc where
  sp : Option Nat
  dk : Option Nat
  rk : Option Nat
  hp : Option Nat
  nm : Nat
  ip : Int
  self : Int
  root : Int
  list : Int
  slots : Int
  fuel : Int
  out : List UInt8
  inp : List UInt8
  over : Bool
  base : Int
  caught : Int
  handler : Int
  does : Nat
def Mc.cells (c : Mc) : Array Value := #[optP c.sp, optP c.dk, optP c.rk, optP c.hp, .pointer (some ⟨c.nm, 0, none⟩), .int .i64 c.ip, .int .i64 c.self, .int .i64 c.root, .int .i64 c.list, .int .i64 c.slots, .int .i64 c.fuel,
  .string ⟨c.out.toArray⟩, .string ⟨c.inp.toArray⟩, .bool c.over, .int .i64 c.base, .int .i64 c.caught, .int .i64 c.handler, .map (some c.does)]
/-- The machine lies in block g. -/
def RMc (w : World) (g : Nat) (c : Mc) : Prop := w.heap[g]? = some (.cells c.cells 47 (0, 0))
theorem RMc.keeps {w w' : World} {g : Nat} {c : Mc} (h : RMc w g c) {S : Nat → Prop} (k : Keeps S w w') (n : ¬ S g) : RMc w' g c := k.heap h n
theorem RMc.setBase {w : World} {g : Nat} {c : Mc} (h : RMc w g c) (v : Int) : RMc (w.setCell ⟨g, 14, none⟩ (.int .i64 v)) g { c with base := v } := hset_same h _
theorem RMc.setList {w : World} {g : Nat} {c : Mc} (h : RMc w g c) (v : Int) : RMc (w.setCell ⟨g, 8, none⟩ (.int .i64 v)) g { c with list := v } := hset_same h _
theorem RMc.setCaught {w : World} {g : Nat} {c : Mc} (h : RMc w g c) (v : Int) : RMc (w.setCell ⟨g, 15, none⟩ (.int .i64 v)) g { c with caught := v } := hset_same h _
theorem RMc.setRoot {w : World} {g : Nat} {c : Mc} (h : RMc w g c) (v : Int) : RMc (w.setCell ⟨g, 7, none⟩ (.int .i64 v)) g { c with root := v } := hset_same h _
theorem RMc.setSp {w : World} {g : Nat} {c : Mc} (h : RMc w g c) (v : Nat) : RMc (w.setCell ⟨g, 0, none⟩ (.pointer (some ⟨v, 0, none⟩))) g { c with sp := some v } := hset_same h _
theorem RMc.setDk {w : World} {g : Nat} {c : Mc} (h : RMc w g c) (v : Nat) : RMc (w.setCell ⟨g, 1, none⟩ (.pointer (some ⟨v, 0, none⟩))) g { c with dk := some v } := hset_same h _
theorem RMc.setRk {w : World} {g : Nat} {c : Mc} (h : RMc w g c) (v : Nat) : RMc (w.setCell ⟨g, 2, none⟩ (.pointer (some ⟨v, 0, none⟩))) g { c with rk := some v } := hset_same h _
theorem RMc.setHp {w : World} {g : Nat} {c : Mc} (h : RMc w g c) (v : Nat) : RMc (w.setCell ⟨g, 3, none⟩ (.pointer (some ⟨v, 0, none⟩))) g { c with hp := some v } := hset_same h _
theorem RMc.free {w : World} {g : Nat} {c : Mc} (h : RMc w g c) (i : Nat) : w.frozen? ⟨g, i, none⟩ = false := free_of h
theorem RMc.c0 {w : World} {g : Nat} {c : Mc} (h : RMc w g c) : w.cell? ⟨g, 0, none⟩ = some (optP c.sp) := cell_of h rfl
theorem RMc.c8 {w : World} {g : Nat} {c : Mc} (h : RMc w g c) : w.cell? ⟨g, 8, none⟩ = some (.int .i64 c.list) := cell_of h rfl
theorem RMc.c14 {w : World} {g : Nat} {c : Mc} (h : RMc w g c) : w.cell? ⟨g, 14, none⟩ = some (.int .i64 c.base) := cell_of h rfl
theorem RMc.c15 {w : World} {g : Nat} {c : Mc} (h : RMc w g c) : w.cell? ⟨g, 15, none⟩ = some (.int .i64 c.caught) := cell_of h rfl
end Go.Proofs.Shed
