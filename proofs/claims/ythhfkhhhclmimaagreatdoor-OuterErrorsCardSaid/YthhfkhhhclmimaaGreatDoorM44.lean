/- Of ErrG: RdS. No condition. -/
import Derived.Test.YthhfkhhhclmimaaGreatDoorM15
import Derived.Test.YthhfkhhhclmimaaGreatDoorM26
import Derived.Test.YthhfkhhhclmimaaGreatDoorM43
import Derived.Test.YthhfkhhhclmimaaGreatDoorM22
import Derived.Test.YthhfkhhhclmimaaGreatDoorM08
import Derived.Lib.ItoaNum
set_option linter.unusedVariables false
set_option linter.unusedSimpArgs false
namespace Go.Proofs.Shed
open Go.RowKit Go.Proofs.Cod
structure Rd where
 v : VM
 pf : List UInt8 → Option Int
 src : List UInt8
 at_ : Nat
 ord : List Int
 marks : List (Int × Int)
 comp : Bool
 meth : Bool
 open_ : Wd
 last : Wd
 here : Int
 list : Int
 is : Bool
namespace Rd
def xt (r : Rd) (s : List UInt8) : Int := (r.pf s).getD 0
def vm (r : Rd) (q : VM × Int) : Rd × Int := ({ r with v := q.1 },q.2)
def bind (q : Rd × Int) (f : Rd → Rd × Int) : Rd × Int := if q.2 ≠ 0 then q else f q.1
def comma (r : Rd) (n : Int) : Rd × Int := r.vm (r.v.setSp (r.v.x.comma n))
def setCell (r : Rd) (a n : Int) : Rd × Int := r.vm (r.v.setCell a n)
def push (r : Rd) (l : List Int) : Rd × Int := r.vm (r.v.push l)
def commas : List Int → Rd → Rd × Int
 | [],r => (r,0)
 | n :: l,r => bind (r.comma n) (commas l)
def compile (r : Rd) (s : List UInt8) (l : List Int) : Rd × Int := commas (r.xt s :: l) r
def literal (r : Rd) (l : List Int) : Rd × Int := if r.comp then commas (l.flatMap fun n => [r.xt [108,105,116],n]) r else r.push l
def next (r : Rd) : Rd := { r with at_ := (Src.word r.src r.at_).2 }
def nextW (r : Rd) : List UInt8 := (Src.word r.src r.at_).1
def badName (s : List UInt8) : Bool := decide (s = []) || decide (31 < s.length)
def name (r : Rd) : Rd × List UInt8 × Int := (r.next,if badName r.nextW then ([],-16) else (r.nextW,0))
def again (r : Rd) (t : List UInt8) : Rd := { r with src := t,at_ := 0 }
def find (r : Rd) : Rd × Wd × Int :=
 if r.name.2.2 ≠ 0 then (r.next,Wd.none,r.name.2.2) else
 match r.v.x.mem.find r.name.2.1 r.ord with
 | some w => (r.next,w,0)
 | none => (r.next,Wd.none,-13)
def keep (r : Rd) : Rd := if r.is then r else { r with here := r.v.x.here,list := (r.v.cell r.v.list).1,is := true }
def kept (r : Rd) : Rd := { r with here := 0,list := 0,is := false }
def start (r : Rd) (m : Bool) : Rd := { r with comp := true,meth := m,marks := [] }
def stop (r : Rd) : Rd × Int := if r.comp = false ∨ r.marks ≠ [] then (r,-22) else ({ r with comp := false },0)
def backTo (r : Rd) (h l n : Int) : Rd := { r with v := ((r.v.setSp (r.v.x.back h)).1.setCell l n).1 }
def made (r : Rd) (list : Int) (s : List UInt8) (n fl : Int) : Rd := { r with v := { r.v with x := (r.v.x.create list s fl n).1 } }
def made2 (r : Rd) (list : Int) (s : List UInt8) (n fl : Int) (l : List Int) : Rd × Int :=
 if (r.v.x.create list s fl n).2.2 ≠ 0 then (r.made list s n fl,(r.v.x.create list s fl n).2.2) else commas l (r.made list s n fl)
def make (r : Rd) (list : Int) (s : List UInt8) (n fl : Int) (l : List Int) : Rd × Wd × Int :=
 if (r.made2 list s n fl l).2 ≠ 0 then ((r.made2 list s n fl l).1.backTo r.v.x.here list (r.v.cell list).1,Wd.none,(r.made2 list s n fl l).2)
 else ({ (r.made2 list s n fl l).1 with last := (r.v.x.create list s fl n).2.1 },(r.v.x.create list s fl n).2.1,0)
def create (r : Rd) (n fl : Int) (l : List Int) : Rd × Wd × Int :=
 if r.name.2.2 ≠ 0 then (r.next,Wd.none,r.name.2.2) else r.next.make r.v.list r.name.2.1 n fl l
def mark (r : Rd) (d : Wd) (fl : Int) : Rd × Int := r.vm (r.v.mem (r.v.x.mem.markWd d.at_ fl).1,(r.v.x.mem.markWd d.at_ fl).2)
def innerOf (nm : List UInt8) : Int := if inn nm = false then 0 else if 0 < inl nm ∨ nm = [40,100,111,41] ∨ nm = [40,99,97,117,103,104,116,41] ∨ nm = [40,101,120,105,116,109,41] ∨ nm = [101,120,105,116] then 2 else 1
def inner (r : Rd) (d : Wd) : Int := innerOf (nameOf (r.v.cell d.xt).1)
def found (r : Rd) (d : Wd) : Rd × Int :=
 if r.comp = true ∧ d.flags % 2 = 0 then (if r.inner d = 2 then (r,-14) else r.comma d.xt)
 else if 0 < r.inner d then (r,-14) else r.vm (r.v.run d.xt)
def mopen (r : Rd) (k a : Int) : Rd × Int := if 100 ≤ r.marks.length then (r,-22) else ({ r with marks := r.marks ++ [(k,a)] },0)
def mclose (r : Rd) (k : Int) : Rd × Int × Int :=
 match r.marks.getLast? with
 | none => (r,0,-22)
 | some p => if p.1 ≠ k then (r,0,-22) else ({ r with marks := r.marks.dropLast },p.2,0)
def colon (r : Rd) : Rd × Int :=
 if r.comp then (r,-22) else
 if (r.keep.create 1001 2 []).2.2 ≠ 0 then ((r.keep.create 1001 2 []).1,(r.keep.create 1001 2 []).2.2)
 else ({ (r.keep.create 1001 2 []).1 with open_ := (r.keep.create 1001 2 []).2.1 }.start false,0)
def semiEnd (r : Rd) : Rd :=
 let u := { (r.mark r.open_ 0).1 with last := r.open_ }
 if u.ord.length = 1 then u.kept else u
def semicolon (r : Rd) : Rd × Int := if r.meth then (r,-22) else bind r.stop fun r => bind (r.compile [101,120,105,116] []) fun r => (r.semiEnd,0)
def immediate (r : Rd) : Rd × Int := if r.comp = true ∨ r.last.xt = 0 then (r,-22) else r.mark r.last 1
def recurse (r : Rd) : Rd × Int := if r.meth then (r,-22) else r.comma r.open_.xt
def exit (r : Rd) : Rd × Int := if r.meth then r.compile [40,101,120,105,116,109,41] [] else r.compile [101,120,105,116] []
def code3 (q : Rd × Wd × Int) : Rd × Int := (q.1,q.2.2)
def defining (r : Rd) (n : Int) (l : List Int) : Rd × Int := if r.comp then (r,-22) else code3 (r.create n 0 l)
def constant (r : Rd) : Rd × Int :=
 if r.comp then (r,-22) else
 if r.v.pop.2.2 ≠ 0 then r.vm (r.v.pop.1,r.v.pop.2.2) else code3 ({ r with v := r.v.pop.1 }.create 1003 0 [r.v.pop.2.1])
def forward (r : Rd) (s : List UInt8) (k : Int) : Rd × Int := bind (r.compile s [0]) fun r => r.mopen k (r.v.x.here - 8)
def close (r : Rd) (k : Int) (f : Rd → Int → Rd × Int) : Rd × Int := if (r.mclose k).2.2 ≠ 0 then ((r.mclose k).1,(r.mclose k).2.2) else f (r.mclose k).1 (r.mclose k).2.1
def patch (r : Rd) (k : Int) : Rd × Int := r.close k fun r a => r.setCell a r.v.x.here
def back (r : Rd) (s : List UInt8) (k : Int) : Rd × Int := r.close k fun r a => r.compile s [a]
def otherwise (r : Rd) : Rd × Int := r.close 0 fun r a => bind (r.forward [98,114,97,110,99,104] 0) fun r => r.setCell a r.v.x.here
def repeat_ (r : Rd) : Rd × Int := r.close 2 fun r a => bind (r.back [98,114,97,110,99,104] 1) fun r => r.setCell a r.v.x.here
def do_ (r : Rd) : Rd × Int := bind (r.compile [40,100,111,41] []) fun r => r.mopen 3 r.v.x.here
def store (r : Rd) (t : List UInt8) : Rd × Int × Int :=
 let q := r.v.setSp (r.v.x.chars t)
 if q.2 ≠ 0 then ({ r with v := q.1 },0,q.2) else
 let p := q.1.setSp q.1.x.align
 ({ r with v := p.1 },r.v.x.here,p.2)
def parsed (r : Rd) (c : UInt8) : Rd := { r with at_ := (Src.parse r.src r.at_ c).2.2 }
def parsedT (r : Rd) (c : UInt8) : List UInt8 := (Src.parse r.src r.at_ c).1
def textC (r : Rd) (t : List UInt8) : Rd × Int :=
 bind (r.forward [98,114,97,110,99,104] 0) fun r =>
 if (r.store t).2.2 ≠ 0 then ((r.store t).1,(r.store t).2.2) else
 bind ((r.store t).1.patch 0) fun u => u.literal [(r.store t).2.1,t.length]
def textP (r : Rd) (t : List UInt8) : Rd × Int :=
 if (r.store t).2.2 ≠ 0 then ((r.store t).1,(r.store t).2.2) else (r.store t).1.push [(r.store t).2.1,t.length]
def text (r : Rd) : Rd × Int := if r.comp then (r.parsed 34).textC (r.parsedT 34) else (r.parsed 34).textP (r.parsedT 34)
def putO (r : Rd) (t : List UInt8) : Rd := { r with v := r.v.put t }
def say (r : Rd) : Rd × Int := if r.comp then bind r.text fun r => r.compile [116,121,112,101] [] else ((r.parsed 34).putO (r.parsedT 34),0)
def char (r : Rd) : Rd × Int := match r.nextW with
 | [] => (r.next,-16)
 | c :: _ => r.next.literal [c.toNat]
def tick (r : Rd) : Rd × Int := if r.find.2.2 ≠ 0 then (r.find.1,r.find.2.2) else r.find.1.literal [r.find.2.1.xt]
def skip (r : Rd) : Rd := { r with at_ := Src.skipLine r.src r.at_ }
def doW (f : Nat) (r : Rd) : Rd × Int :=
 if f = 217 then r.colon
 else if f = 218 then r.semicolon
 else if f = 219 then r.immediate
 else if f = 221 then r.recurse
 else if f = 222 then r.exit
 else if f = 223 then r.defining 1002 [0]
 else if f = 225 then r.defining 1002 []
 else if f = 226 then r.constant
 else if f = 227 then r.forward [48,98,114,97,110,99,104] 0
 else if f = 229 then r.otherwise
 else if f = 230 then r.patch 0
 else if f = 232 then r.mopen 1 r.v.x.here
 else if f = 234 then r.back [98,114,97,110,99,104] 1
 else if f = 236 then r.back [48,98,114,97,110,99,104] 1
 else if f = 237 then r.forward [48,98,114,97,110,99,104] 2
 else if f = 238 then r.repeat_
 else if f = 239 then r.do_
 else if f = 240 then r.back [40,108,111,111,112,41] 3
 else if f = 241 then r.back [40,43,108,111,111,112,41] 3
 else if f = 242 then (r.parsed 41,0)
 else if f = 244 then (r.skip,0)
 else if f = 245 then r.text
 else if f = 246 then r.say
 else if f = 247 then r.char
 else r.tick
def doK (r : Rd) : Wk → Rd × Int
 | .plain f => doW f r
 | .only f => if r.comp = false then (r,-14) else doW f r
def other (r : Rd) (s : List UInt8) : Rd × Int :=
 match r.v.x.mem.find s r.ord with
 | some d => r.found d
 | none => if (Num.parse s r.v.baseN).2 then r.literal [(Num.parse s r.v.baseN).1] else (r,-13)
def own (r : Rd) (s : List UInt8) : Rd × Int :=
 match K_words (lower s) with
 | some k => r.doK k
 | none => r.other s
def errText (e : Int) : List UInt8 := 63 :: (Lib.itoa e ++ [10])
def emptied (v : VM) (e : Int) : VM := (((v.put (errText e)).ddrop 0).1.rdrop 0).1
def failed (r : Rd) (e : Int) : Rd :=
 let u := { r with v := emptied r.v e }
 let t := if u.is then { u.backTo u.here u.v.list u.list with last := Wd.none } else u
 { t.kept with comp := false,meth := false,marks := [] }
end Rd
structure Ext (α : Type) where
 has : List UInt8 → Bool
 word : List UInt8 → Rd × α → (Rd × α) × Int
 reset : Rd × α → Rd × α
 good : Rd → Prop := fun _ => True
namespace Ext
variable {α : Type} (E : Ext α)
def lift (x : α) (q : Rd × Int) : (Rd × α) × Int := ((q.1,x),q.2)
def doIt (s : List UInt8) (q : Rd × α) : (Rd × α) × Int := if E.has (lower s) then E.word (lower s) q else lift q.2 (q.1.own s)
def fail (q : Rd × α) (e : Int) : Rd × α := let p := E.reset (q.1.failed e,q.2); (p.1.skip,p.2)
def readN : Nat → (Rd × α) × Int → (Rd × α) × Int
 | 0,q => q
 | k + 1,q =>
  if q.1.1.v.over then q else
  if q.1.1.nextW = [] then ((q.1.1.next,q.1.2),q.2) else
  if q.1.1.v.fuel ≤ 0 then (E.fail (q.1.1.next,q.1.2) (-2053),-2053) else
  let p := E.doIt q.1.1.nextW ({ q.1.1.next with v := { q.1.1.v with fuel := q.1.1.v.fuel - 1 } },q.1.2)
  if p.2 = 0 then readN k (p.1,q.2) else if p.2 = -2053 then (E.fail p.1 p.2,p.2) else readN k (E.fail p.1 p.2,p.2)
def read (t : List UInt8) (q : Rd × α) : (Rd × α) × Int := E.readN (q.1.v.fuel.toNat + 2) ((q.1.again t,q.2),0)
end Ext
end Go.Proofs.Shed
