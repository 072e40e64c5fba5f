/- Of CallsG: RdS, RoomP, WordP. No condition. -/
import Derived.Test.YthhfkhhhclmimaaGreatDoorM15
import Derived.Test.YthhfkhhhclmimaaGreatDoorM26
import Derived.Test.YthhfkhhhclmimaaGreatDoorM43
import Derived.Test.YthhfkhhhclmimaaGreatDoorM22
set_option linter.unusedVariables false
set_option linter.unusedSimpArgs false
namespace Go.Proofs.Shed
open Go.RowKit Go.Proofs.Cod
structure Rd where
 v:VM
 pf:List UInt8→Option Int
 src:List UInt8
 at_:Nat
 ord:List Int
 marks:List (Int × Int)
 comp:Bool
 meth:Bool
 open_:Wd
 last:Wd
 here:Int
 list:Int
 is:Bool
namespace Rd
def xt (r:Rd) (s:List UInt8):Int:=(r.pf s).getD 0
def vm (r:Rd) (q:VM × Int):Rd × Int:=({ r with v:=q.1 },q.2)
def bind (q:Rd × Int) (f:Rd→Rd × Int):Rd × Int:=if q.2≠0 then q else f q.1
def comma (r:Rd) (n:Int):Rd × Int:=r.vm (r.v.setSp (r.v.x.comma n))
def setCell (r:Rd) (a n:Int):Rd × Int:=r.vm (r.v.setCell a n)
def push (r:Rd) (l:List Int):Rd × Int:=r.vm (r.v.push l)
def commas:List Int→Rd→Rd × Int
 | [],r=>(r,0)
 | n :: l,r=>bind (r.comma n) (commas l)
def compile (r:Rd) (s:List UInt8) (l:List Int):Rd × Int:=commas (r.xt s :: l) r
def literal (r:Rd) (l:List Int):Rd × Int:=if r.comp then commas (l.flatMap fun n=>[r.xt [108,105,116],n]) r else r.push l
def next (r:Rd):Rd:={ r with at_:=(Src.word r.src r.at_).2 }
def nextW (r:Rd):List UInt8:=(Src.word r.src r.at_).1
def badName (s:List UInt8):Bool:=decide (s=[]) || decide (31<s.length)
def name (r:Rd):Rd × List UInt8 × Int:=(r.next,if badName r.nextW then ([],-16) else (r.nextW,0))
def again (r:Rd) (t:List UInt8):Rd:={ r with src:=t,at_:=0 }
def find (r:Rd):Rd × Wd × Int :=
 if r.name.2.2≠0 then (r.next,Wd.none,r.name.2.2) else
 match r.v.x.mem.find r.name.2.1 r.ord with
 | some w=>(r.next,w,0)
 | none=>(r.next,Wd.none,-13)
def keep (r:Rd):Rd:=if r.is then r else { r with here:=r.v.x.here,list:=(r.v.cell r.v.list).1,is:=true }
def kept (r:Rd):Rd:={ r with here:=0,list:=0,is:=false }
def start (r:Rd) (m:Bool):Rd:={ r with comp:=true,meth:=m,marks:=[] }
def stop (r:Rd):Rd × Int:=if r.comp=false∨r.marks≠[] then (r,-22) else ({ r with comp:=false },0)
def backTo (r:Rd) (h l n:Int):Rd:={ r with v:=((r.v.setSp (r.v.x.back h)).1.setCell l n).1 }
def made (r:Rd) (list:Int) (s:List UInt8) (n fl:Int):Rd:={ r with v:={ r.v with x:=(r.v.x.create list s fl n).1 } }
def made2 (r:Rd) (list:Int) (s:List UInt8) (n fl:Int) (l:List Int):Rd × Int :=
 if (r.v.x.create list s fl n).2.2≠0 then (r.made list s n fl,(r.v.x.create list s fl n).2.2) else commas l (r.made list s n fl)
def make (r:Rd) (list:Int) (s:List UInt8) (n fl:Int) (l:List Int):Rd × Wd × Int :=
 if (r.made2 list s n fl l).2≠0 then ((r.made2 list s n fl l).1.backTo r.v.x.here list (r.v.cell list).1,Wd.none,(r.made2 list s n fl l).2)
 else ({ (r.made2 list s n fl l).1 with last:=(r.v.x.create list s fl n).2.1 },(r.v.x.create list s fl n).2.1,0)
def create (r:Rd) (n fl:Int) (l:List Int):Rd × Wd × Int :=
 if r.name.2.2≠0 then (r.next,Wd.none,r.name.2.2) else r.next.make r.v.list r.name.2.1 n fl l
def mark (r:Rd) (d:Wd) (fl:Int):Rd × Int:=r.vm (r.v.mem (r.v.x.mem.markWd d.at_ fl).1,(r.v.x.mem.markWd d.at_ fl).2)
def innerOf (nm:List UInt8):Int:=if inn nm=false then 0 else if 0<inl nm∨nm=[40,100,111,41]∨nm=[40,99,97,117,103,104,116,41]∨nm=[40,101,120,105,116,109,41]∨nm=[101,120,105,116] then 2 else 1
def inner (r:Rd) (d:Wd):Int:=innerOf (nameOf (r.v.cell d.xt).1)
def found (r:Rd) (d:Wd):Rd × Int :=
 if r.comp=true∧d.flags % 2=0 then (if r.inner d=2 then (r,-14) else r.comma d.xt)
 else if 0<r.inner d then (r,-14) else r.vm (r.v.run d.xt)
def mopen (r:Rd) (k a:Int):Rd × Int:=if 100≤r.marks.length then (r,-22) else ({ r with marks:=r.marks++[(k,a)] },0)
def mclose (r:Rd) (k:Int):Rd × Int × Int :=
 match r.marks.getLast? with
 | none=>(r,0,-22)
 | some p=>if p.1≠k then (r,0,-22) else ({ r with marks:=r.marks.dropLast },p.2,0)
def colon (r:Rd):Rd × Int :=
 if r.comp then (r,-22) else
 if (r.keep.create 1001 2 []).2.2≠0 then ((r.keep.create 1001 2 []).1,(r.keep.create 1001 2 []).2.2)
 else ({ (r.keep.create 1001 2 []).1 with open_:=(r.keep.create 1001 2 []).2.1 }.start false,0)
def semiEnd (r:Rd):Rd :=
 let u:={ (r.mark r.open_ 0).1 with last:=r.open_ }
 if u.ord.length=1 then u.kept else u
def semicolon (r:Rd):Rd × Int:=if r.meth then (r,-22) else bind r.stop fun r=>bind (r.compile [101,120,105,116] []) fun r=>(r.semiEnd,0)
def immediate (r:Rd):Rd × Int:=if r.comp=true∨r.last.xt=0 then (r,-22) else r.mark r.last 1
def recurse (r:Rd):Rd × Int:=if r.meth then (r,-22) else r.comma r.open_.xt
def exit (r:Rd):Rd × Int:=if r.meth then r.compile [40,101,120,105,116,109,41] [] else r.compile [101,120,105,116] []
def code3 (q:Rd × Wd × Int):Rd × Int:=(q.1,q.2.2)
def defining (r:Rd) (n:Int) (l:List Int):Rd × Int:=if r.comp then (r,-22) else code3 (r.create n 0 l)
def constant (r:Rd):Rd × Int :=
 if r.comp then (r,-22) else
 if r.v.pop.2.2≠0 then r.vm (r.v.pop.1,r.v.pop.2.2) else code3 ({ r with v:=r.v.pop.1 }.create 1003 0 [r.v.pop.2.1])
def forward (r:Rd) (s:List UInt8) (k:Int):Rd × Int:=bind (r.compile s [0]) fun r=>r.mopen k (r.v.x.here-8)
def close (r:Rd) (k:Int) (f:Rd→Int→Rd × Int):Rd × Int:=if (r.mclose k).2.2≠0 then ((r.mclose k).1,(r.mclose k).2.2) else f (r.mclose k).1 (r.mclose k).2.1
def patch (r:Rd) (k:Int):Rd × Int:=r.close k fun r a=>r.setCell a r.v.x.here
def back (r:Rd) (s:List UInt8) (k:Int):Rd × Int:=r.close k fun r a=>r.compile s [a]
def otherwise (r:Rd):Rd × Int:=r.close 0 fun r a=>bind (r.forward [98,114,97,110,99,104] 0) fun r=>r.setCell a r.v.x.here
def repeat_ (r:Rd):Rd × Int:=r.close 2 fun r a=>bind (r.back [98,114,97,110,99,104] 1) fun r=>r.setCell a r.v.x.here
def do_ (r:Rd):Rd × Int:=bind (r.compile [40,100,111,41] []) fun r=>r.mopen 3 r.v.x.here
def store (r:Rd) (t:List UInt8):Rd × Int × Int :=
 let q:=r.v.setSp (r.v.x.chars t)
 if q.2≠0 then ({ r with v:=q.1 },0,q.2) else
 let p:=q.1.setSp q.1.x.align
 ({ r with v:=p.1 },r.v.x.here,p.2)
def parsed (r:Rd) (c:UInt8):Rd:={ r with at_:=(Src.parse r.src r.at_ c).2.2 }
def parsedT (r:Rd) (c:UInt8):List UInt8:=(Src.parse r.src r.at_ c).1
def textC (r:Rd) (t:List UInt8):Rd × Int :=
 bind (r.forward [98,114,97,110,99,104] 0) fun r =>
 if (r.store t).2.2≠0 then ((r.store t).1,(r.store t).2.2) else
 bind ((r.store t).1.patch 0) fun u=>u.literal [(r.store t).2.1,t.length]
def textP (r:Rd) (t:List UInt8):Rd × Int :=
 if (r.store t).2.2≠0 then ((r.store t).1,(r.store t).2.2) else (r.store t).1.push [(r.store t).2.1,t.length]
def text (r:Rd):Rd × Int:=if r.comp then (r.parsed 34).textC (r.parsedT 34) else (r.parsed 34).textP (r.parsedT 34)
def putO (r:Rd) (t:List UInt8):Rd:={ r with v:=r.v.put t }
def say (r:Rd):Rd × Int:=if r.comp then bind r.text fun r=>r.compile [116,121,112,101] [] else ((r.parsed 34).putO (r.parsedT 34),0)
def char (r:Rd):Rd × Int:=match r.nextW with
 | []=>(r.next,-16)
 | c :: _=>r.next.literal [c.toNat]
def tick (r:Rd):Rd × Int:=if r.find.2.2≠0 then (r.find.1,r.find.2.2) else r.find.1.literal [r.find.2.1.xt]
def skip (r:Rd):Rd:={ r with at_:=Src.skipLine r.src r.at_ }
def doW (f:Nat) (r:Rd):Rd × Int :=
 if f=217 then r.colon
 else if f=218 then r.semicolon
 else if f=219 then r.immediate
 else if f=221 then r.recurse
 else if f=222 then r.exit
 else if f=223 then r.defining 1002 [0]
 else if f=225 then r.defining 1002 []
 else if f=226 then r.constant
 else if f=227 then r.forward [48,98,114,97,110,99,104] 0
 else if f=229 then r.otherwise
 else if f=230 then r.patch 0
 else if f=232 then r.mopen 1 r.v.x.here
 else if f=234 then r.back [98,114,97,110,99,104] 1
 else if f=236 then r.back [48,98,114,97,110,99,104] 1
 else if f=237 then r.forward [48,98,114,97,110,99,104] 2
 else if f=238 then r.repeat_
 else if f=239 then r.do_
 else if f=240 then r.back [40,108,111,111,112,41] 3
 else if f=241 then r.back [40,43,108,111,111,112,41] 3
 else if f=242 then (r.parsed 41,0)
 else if f=244 then (r.skip,0)
 else if f=245 then r.text
 else if f=246 then r.say
 else if f=247 then r.char
 else r.tick
def doK (r:Rd):Wk→Rd × Int
 | .plain f=>doW f r
 | .only f=>if r.comp=false then (r,-14) else doW f r
def other (r:Rd) (s:List UInt8):Rd × Int :=
 match r.v.x.mem.find s r.ord with
 | some d=>r.found d
 | none=>if (Num.parse s r.v.baseN).2 then r.literal [(Num.parse s r.v.baseN).1] else (r,-13)
def own (r:Rd) (s:List UInt8):Rd × Int :=
 match K_words (lower s) with
 | some k=>r.doK k
 | none=>r.other s
def errText (e:Int):List UInt8:=63 :: (Lib.itoa e++[10])
def emptied (v:VM) (e:Int):VM:=(((v.put (errText e)).ddrop 0).1.rdrop 0).1
def failed (r:Rd) (e:Int):Rd :=
 let u:={ r with v:=emptied r.v e }
 let t:=if u.is then { u.backTo u.here u.v.list u.list with last:=Wd.none } else u
 { t.kept with comp:=false,meth:=false,marks:=[] }
end Rd
structure Ext (α:Type) where
 has:List UInt8→Bool
 word:List UInt8→Rd × α→(Rd × α) × Int
 reset:Rd × α→Rd × α
 good:Rd→Prop:=fun _=>True
namespace Ext
variable {α:Type} (E:Ext α)
def lift (x:α) (q:Rd × Int):(Rd × α) × Int:=((q.1,x),q.2)
def doIt (s:List UInt8) (q:Rd × α):(Rd × α) × Int:=if E.has (lower s) then E.word (lower s) q else lift q.2 (q.1.own s)
def fail (q:Rd × α) (e:Int):Rd × α:=let p:=E.reset (q.1.failed e,q.2);(p.1.skip,p.2)
def readN:Nat→(Rd × α) × Int→(Rd × α) × Int
 | 0,q=>q
 | k+1,q =>
  if q.1.1.v.over then q else
  if q.1.1.nextW=[] then ((q.1.1.next,q.1.2),q.2) else
  if q.1.1.v.fuel≤0 then (E.fail (q.1.1.next,q.1.2) (-2053),-2053) else
  let p:=E.doIt q.1.1.nextW ({ q.1.1.next with v:={ q.1.1.v with fuel:=q.1.1.v.fuel-1 } },q.1.2)
  if p.2=0 then readN k (p.1,q.2) else if p.2 = -2053 then (E.fail p.1 p.2,p.2) else readN k (E.fail p.1 p.2,p.2)
def read (t:List UInt8) (q:Rd × α):(Rd × α) × Int:=E.readN (q.1.v.fuel.toNat+2) ((q.1.again t,q.2),0)
end Ext
set_option maxRecDepth 10000
set_option maxHeartbeats 4000000
namespace Sp
structure Room (x:Sp) (k:Nat):Prop where
 ok:x.Ok
 h8:x.here % 8=0
 fits:x.here+8*k≤x.to
def cells:List Int→Sp→Sp
 | [],x=>x
 | n :: l,x=>cells l { x with mem:=(x.mem.setCell x.here n).1,here:=x.here+8 }
theorem room_at {x:Sp} {k:Nat} (h:x.Room (k+1)):x.mem.at_ x.here=0:=by
 obtain ⟨⟨h1,h2,h3,h4⟩,h8,ht⟩:=h;rw [Mem.at_zero];omega
theorem comma_fits {x:Sp} {k:Nat} (h:x.Room (k+1)) (n:Int):x.comma n=({ x with mem:=(x.mem.setCell x.here n).1,here:=x.here+8 },0):=by
 have ha:=room_at h;obtain ⟨⟨h1,h2,h3,h4⟩,h8,ht⟩:=h;unfold comma put allot;rw [if_pos (by omega),Mem.setCell_code,ha,if_neg (by simp),if_neg (by simp only;omega)]
theorem room_step {x:Sp} {k:Nat} (h:x.Room (k+1)) (n:Int):Room { x with mem:=(x.mem.setCell x.here n).1,here:=x.here+8 } k:=by
 obtain ⟨⟨h1,h2,h3,h4⟩,h8,ht⟩:=h;refine ⟨⟨h1,?_,?_,?_⟩,?_,?_⟩
 · show x.lo≤x.here+8;omega
 · show x.here+8≤x.to;omega
 · show x.to≤((x.mem.setCell x.here n).1.size:Int);rw [Mem.setCell_size];exact h4
 · show (x.here+8) % 8=0;omega
 · show x.here+8+8*(k:Int)≤x.to;omega
theorem room_less {x:Sp} {k j:Nat} (h:x.Room k) (hj:j≤k):x.Room j:=⟨h.ok,h.h8,by have:=h.fits;omega⟩
theorem cells_append (a b:List Int) (x:Sp):cells (a++b) x=cells b (cells a x):=by
 induction a generalizing x with
 | nil=>rfl
 | cons n a ih=>rw [List.cons_append,cells,cells,ih]
theorem cells_room (l:List Int) {x:Sp} {k:Nat} (h:x.Room (l.length+k)):(cells l x).Room k:=by
 induction l generalizing x with
 | nil=>exact room_less h (by simp)
 | cons n l ih =>
  rw [cells];refine ih (room_step (k:=l.length+k) ?_ n);rw [List.length_cons] at h;exact room_less h (by omega)
theorem cells_here (l:List Int) (x:Sp):(cells l x).here=x.here+8*l.length:=by
 induction l generalizing x with
 | nil=>simp [cells]
 | cons n l ih =>
  rw [cells,ih,List.length_cons];simp only
  omega
theorem cells_lo (l:List Int) (x:Sp):(cells l x).lo=x.lo∧(cells l x).to=x.to∧(cells l x).mem.size=x.mem.size:=by
 induction l generalizing x with
 | nil=>exact ⟨rfl,rfl,rfl⟩
 | cons n l ih =>
  rw [cells];obtain ⟨h1,h2,h3⟩:=ih { x with mem:=(x.mem.setCell x.here n).1,here:=x.here+8 };exact ⟨h1,h2,h3.trans (Mem.setCell_size _ _ _)⟩
end Sp
theorem commas_room (l:List Int) (r:Rd) (h:r.v.x.Room l.length):Rd.commas l r=({ r with v:={ r.v with x:=Sp.cells l r.v.x } },0):=by
 induction l generalizing r with
 | nil=>rfl
 | cons n l ih =>
  rw [List.length_cons] at h;have hc:=Sp.comma_fits h n;unfold Rd.commas Rd.bind;have h2:(r.comma n).2=0:=by show (r.v.x.comma n).2=0;rw [hc]
  rw [if_neg (by rw [h2];simp)]
  have h1:(r.comma n).1={ r with v:={ r.v with x:={ r.v.x with mem:=(r.v.x.mem.setCell r.v.x.here n).1,here:=r.v.x.here+8 } } }:=by
   show ({ r with v:={ r.v with x:=(r.v.x.comma n).1 } }:Rd)=_
   rw [hc]
  rw [h1,ih _ (Sp.room_step h n)];rfl
namespace Mem
structure Agree (m m':Mem) (H:Nat):Prop where
 size:m'.size=m.size
 bit:∀ i,i<8*H→m'.bits.testBit i=m.bits.testBit i
theorem Agree.refl (m:Mem) (H:Nat):Agree m m H:=⟨rfl,fun _ _=>rfl⟩
theorem Agree.trans {m m1 m2:Mem} {H:Nat} (h:Agree m m1 H) (k:Agree m1 m2 H):Agree m m2 H:=⟨k.size.trans h.size,fun i hi=>(k.bit i hi).trans (h.bit i hi)⟩
theorem get_agree {m m':Mem} {H:Nat} (h:Agree m m' H) (a n:Nat) (ha:a+n≤H):m'.get a n=m.get a n:=by
 apply Nat.eq_of_testBit_eq
 intro j;rw [get_bit,get_bit];by_cases hj:j<8*n
 · rw [h.bit _ (by omega)]
 · simp [hj]
theorem agree_put (m:Mem) (a n v H:Nat) (ha:H≤a):Agree m (m.put a n v) H:=⟨rfl,fun i hi=>by rw [put_bit,if_neg (by omega)]⟩
theorem agree_setCell (m:Mem) (a n:Int) (H:Nat) (ha:(H:Int)≤a):Agree m (m.setCell a n).1 H:=by
 unfold setCell;split
 · exact agree_put _ _ _ _ _ (by omega)
 · exact Agree.refl _ _
theorem at_agree {m m':Mem} {H:Nat} (h:Agree m m' H) (a:Int):m'.at_ a=m.at_ a:=at_size h.size a
theorem cell_agree {m m':Mem} {H:Nat} (h:Agree m m' H) (a:Int) (ha:a+8≤H):m'.cell a=m.cell a:=by
 unfold cell;rw [at_agree h];split
 · rename_i h0
   rw [at_zero] at h0;rw [get_agree h _ _ (by omega)]
 · rfl
theorem text_agree {m m':Mem} {H:Nat} (h:Agree m m' H) (a n:Int) (ha:a+n≤H):m'.text a n=m.text a n:=by
 unfold text;have hh:m'.has a n=m.has a n:=by unfold has;rw [h.size]
 rw [hh];split
 · rename_i h0
   rw [has_iff] at h0;rw [get_agree h _ _ (by omega)]
 · rfl
theorem readWd_agree {m m':Mem} {H:Nat} (h:Agree m m' H) (a:Int) (ha:a+24+pad8 ((m.cell (a+8)).1 % 256)≤H):m'.readWd a=m.readWd a:=by
 have hp0:(m.cell (a+8)).1 % 256≤pad8 ((m.cell (a+8)).1 % 256)∧0≤(m.cell (a+8)).1 % 256:=by unfold pad8;omega
 unfold readWd;rw [cell_agree h a (by omega),cell_agree h (a+8) (by omega)]
 simp only
 by_cases hc:(m.cell a).2≠0∨(m.cell (a+8)).2≠0∨31<(m.cell (a+8)).1 % 256∨(m.cell (a+8)).1<0
 · rw [if_pos hc,if_pos hc]
 · rw [if_neg hc,if_neg hc]
   rw [cell_agree h (a+16+pad8 ((m.cell (a+8)).1 % 256)) (by omega),text_agree h (a+16) ((m.cell (a+8)).1 % 256) (by omega)]
def below (m:Mem) (H:Int):Nat→Int→Int→Bool
 | 0,_,_=>true
 | k+1,last,a=>if 0<a∧a<last then decide (a+24+pad8 ((m.cell (a+8)).1 % 256)≤H) && (match m.readWd a with | some (_,l)=>below m H k a l | none=>true) else true
theorem wordsN_agree {m m':Mem} {H:Nat} (h:Agree m m' H):∀ (k:Nat) (last a:Int),m.below H k last a=true→m'.wordsN k last a=m.wordsN k last a
 | 0,_,_,_=>rfl
 | k+1,last,a,hb=>by
  unfold below at hb;unfold wordsN;by_cases hc:0<a∧a<last
  · rw [if_pos hc] at hb
    rw [if_pos hc,if_pos hc];simp only [Bool.and_eq_true,decide_eq_true_eq] at hb
    obtain ⟨h1,h2⟩:=hb;rw [readWd_agree h a h1]
    cases hr:m.readWd a with
    | none=>rfl
    | some p =>
     obtain ⟨w,l⟩:=p;rw [hr] at h2
     show w :: m'.wordsN k a l=w :: m.wordsN k a l
     rw [wordsN_agree h k a l h2]
  · rw [if_neg hc,if_neg hc]
theorem words_agree {m m':Mem} {H:Nat} (h:Agree m m' H) (list:Int) (hl:list+8≤H) (hb:m.below H m.size m.size (m.cell list).1=true):m'.words list=m.words list:=by
 unfold words;rw [cell_agree h list hl,h.size];split
 · rfl
 · exact wordsN_agree h _ _ _ hb
theorem find_agree {m m':Mem} {H:Nat} (h:Agree m m' H) (s:List UInt8) (list:Int) (hl:list+8≤H) (hb:m.below H m.size m.size (m.cell list).1=true):m'.find s [list]=m.find s [list]:=by
 unfold find;rw [words_agree h list hl hb];rfl
end Mem
theorem cells_agree (l:List Int) (x:Sp) (H:Nat) (hH:(H:Int)≤x.here):Mem.Agree x.mem (Sp.cells l x).mem H:=by
 induction l generalizing x with
 | nil=>exact Mem.Agree.refl _ _
 | cons n l ih =>
  rw [Sp.cells];refine (Mem.agree_setCell x.mem x.here n H hH).trans (ih { x with mem:=(x.mem.setCell x.here n).1,here:=x.here+8 } ?_)
  show (H:Int)≤x.here+8
  omega
namespace Src
def solid (s:List UInt8):Bool:=!s.isEmpty && s.all fun c=>!blank c
theorem solid_head {c:UInt8} {s:List UInt8} (h:solid (c :: s)=true):blank c=false:=by
 unfold solid at h;simp at h
 simpa using h.1
theorem takeWhile_solid {s t:List UInt8} (h:s.all (fun c=>!blank c)=true) (ht:∀ c r,t=c :: r→blank c=true):(s++t).takeWhile (fun c=>!blank c)=s:=by
 induction s with
 | nil =>
  cases t with
  | nil=>rfl
  | cons c r=>rw [List.nil_append,List.takeWhile_cons,ht c r rfl];rfl
 | cons c s ih =>
  simp only [List.all_cons,Bool.and_eq_true] at h
  rw [List.cons_append,List.takeWhile_cons,h.1,ih h.2];rfl
theorem skip_solid (src s t:List UInt8) (a:Nat) (h:solid s=true) (e:src.drop a=s++t):skip src a=a:=by
 unfold skip;rw [e]
 cases s with
 | nil=>cases h
 | cons c s=>rw [List.cons_append,List.takeWhile_cons,solid_head h];rfl
theorem drop_add (src s t:List UInt8) (a:Nat) (e:src.drop a=s++t):src.drop (a+s.length)=t:=by
 rw [← List.drop_drop,e,List.drop_left]
theorem word_mid (src s t:List UInt8) (a:Nat) (h:solid s=true) (e:src.drop a=s++32 :: t):word src a=(s,a+s.length+1)∧src.drop (a+s.length+1)=t:=by
 have hs:=skip_solid src s _ a h e;have hall:s.all (fun c=>!blank c)=true:=by unfold solid at h;simp only [Bool.and_eq_true] at h;exact h.2
 have hw:(src.drop a).takeWhile (fun c=>!blank c)=s:=by rw [e];exact takeWhile_solid hall (fun c r e=>by injection e with e _;subst e;rfl)
 have hd:=drop_add src s _ a e;refine ⟨?_,by rw [← List.drop_drop,hd];rfl⟩
 unfold word;simp only
 rw [hs,hw,hd,if_pos (show Option.any (fun c=>decide (c.toNat≠10)) ((32:UInt8) :: t).head?=true from rfl)]
theorem word_last (src s:List UInt8) (a:Nat) (h:solid s=true) (e:src.drop a=s):word src a=(s,a+s.length)∧src.drop (a+s.length)=[]:=by
 have e':src.drop a=s++[]:=by rw [e];simp
 have hs:=skip_solid src s _ a h e';have hall:s.all (fun c=>!blank c)=true:=by unfold solid at h;simp only [Bool.and_eq_true] at h;exact h.2
 have hw:(src.drop a).takeWhile (fun c=>!blank c)=s:=by rw [e'];exact takeWhile_solid hall (fun c r e=>by cases e)
 have hd:=drop_add src s _ a e';refine ⟨?_,hd⟩;unfold word;simp only
 rw [hs,hw,hd,if_neg (by decide)]
theorem word_none (src:List UInt8) (a:Nat) (e:src.drop a=[]):word src a=([],a):=by
 have hs:skip src a=a:=by unfold skip;rw [e];rfl
 have hw:(src.drop a).takeWhile (fun c=>!blank c)=[]:=by rw [e];rfl
 unfold word;simp only
 rw [hs,hw];simp only [List.length_nil,Nat.add_zero]
 rw [e,if_neg (by decide)]
end Src
theorem fig_solid {c:UInt8} (h:Num.isFig c=true):Src.blank c=false:=by
 have:=Num.isFig_bd h;unfold Src.blank;simp
 omega
theorem numeric_solid {s:List UInt8} (h:Num.numeric s=true):Src.solid s=true:=by
 unfold Num.numeric at h;split at h
 · simp only [Bool.and_eq_true] at h
   unfold Src.solid;simp only [Bool.and_eq_true,List.all_cons]
   refine ⟨rfl,by decide,?_⟩
   rw [List.all_eq_true];intro c hc;rw [fig_solid (List.all_eq_true.1 h.2 c hc)];rfl
 · simp only [Bool.and_eq_true] at h
   unfold Src.solid;simp only [Bool.and_eq_true]
   refine ⟨h.1,?_⟩;rw [List.all_eq_true];intro c hc;rw [fig_solid (List.all_eq_true.1 h.2 c hc)];rfl
theorem lower_fig {c:UInt8} (h:Num.isFig c=true):lowB c=c:=by
 have:=Num.isFig_bd h;unfold lowB;rw [if_neg (by omega)]
theorem lower_numeric {s:List UInt8} (h:Num.numeric s=true):lower s=s:=by
 have key:∀ t:List UInt8,t.all Num.isFig=true→t.map lowB=t:=by
  intro t ht
  induction t with
  | nil=>rfl
  | cons c t ih =>
   simp only [List.all_cons,Bool.and_eq_true] at ht
   rw [List.map_cons,lower_fig ht.1,ih ht.2]
 unfold lower;unfold Num.numeric at h;split at h
 · simp only [Bool.and_eq_true] at h
   rw [List.map_cons,key _ h.2];rfl
 · simp only [Bool.and_eq_true] at h
   exact key _ h.2
theorem words_numeric {s:List UInt8} (h:Num.numeric s=true):K_words s=none:=by
 have key:∀ nm:List UInt8,Num.numeric nm=false→¬ s=nm:=fun nm hn e=>by rw [← e,h] at hn;cases hn
 unfold K_words wput
 repeat rw [if_neg (key _ (by decide))]
theorem find_numeric {m:Mem} {s:List UInt8} {list:Int} (h:Num.numeric s=true) (hw:(m.words list).all (fun w=>!Num.numeric w.name)=true):m.find s [list]=none:=by
 have hf:Mem.findIn (m.words list) (lower s)=none:=by
  unfold Mem.findIn;rw [List.find?_eq_none];intro w hm;have:=List.all_eq_true.1 hw w hm;rw [lower_numeric h];intro e;simp only [Bool.and_eq_true,decide_eq_true_eq] at e
  rw [e.1,h] at this
  cases this
 unfold Mem.find;rw [hf];rfl
theorem own_number (r:Rd) (n:Int) (h0 : -9223372036854775808≤n) (h1:n≤9223372036854775807) (list:Int) (ho:r.ord=[list]) (hb:r.v.baseN=10) (hw:(r.v.x.mem.words list).all (fun w=>!Num.numeric w.name)=true) :
 r.own (Num.show_ n 10)=r.literal [n]:=by
 have hn:=Num.show_numeric n h0 h1;unfold Rd.own;rw [lower_numeric hn,words_numeric hn]
 show r.other _=_
 unfold Rd.other;rw [ho,find_numeric hn hw,hb,Num.parse_show n h0 h1];rfl
end Go.Proofs.Shed
