/- A part of WalkG. No condition. -/
import Derived.Test.YthhfkhhhclmimaaGreatDoorM19
import Derived.Test.YthhfkhhhclmimaaGreatDoorM28
import Derived.Test.YthhfkhhhclmimaaGreatDoorM37
import Derived.Test.YthhfkhhhclmimaaGreatDoorM39
import Derived.Test.YthhfkhhhclmimaaGreatDoorM24
import Derived.Test.YthhfkhhhclmimaaGreatDoorM02
set_option linter.unusedVariables false
set_option linter.unusedSimpArgs false
open Go.Proofs.Tryz
namespace Go.Proofs.dS
open Go.RowKit Go.Proofs.tI
structure Rd where
 v:VM
 pf:List UInt8->Option Int
 src:List UInt8
 cM:Nat
 eE:List Int
 dy:List (Int × Int)
 comp:Bool
 eM:Bool
 eC:Wd
 ea:Wd
 cu:Int
 cF:Int
 is:Bool
namespace Rd
def xt(r:Rd)(s:List UInt8):Int:=(r.pf s).getD 0
def vm(r:Rd)(q:VM × Int):Rd × Int:=({ r with v:=q.1 },q.2)
def bind(q:Rd × Int)(f:Rd->Rd × Int):Rd × Int:=if q.2≠0 then q else f q.1
def cN(r:Rd)(n:Int):Rd × Int:=r.vm (r.v.fB (r.v.x.cN n))
def setCell(r:Rd)(a n:Int):Rd × Int:=r.vm (r.v.setCell a n)
def push(r:Rd)(l:List Int):Rd × Int:=r.vm (r.v.push l)
def eR:List Int->Rd->Rd × Int
 | [],r=>(r,0)
 | n :: l,r=>bind (r.cN n) (eR l)
def di(r:Rd)(s:List UInt8)(l:List Int):Rd × Int:=eR (r.xt s :: l) r
def gX(r:Rd)(l:List Int):Rd × Int:=if r.comp then eR (l.flatMap fun n=>[r.xt [108,105,116],n]) r else r.push l
def next(r:Rd):Rd:={ r with cM:=(Src.dA r.src r.cM).2 }
def dt(r:Rd):List UInt8:=(Src.dA r.src r.cM).1
def gH(s:List UInt8):Bool:=decide (s=[]) || decide (31<s.length)
def name(r:Rd):Rd × List UInt8 × Int:=(r.next,if gH r.dt then([],-16)else(r.dt,0))
def again(r:Rd)(t:List UInt8):Rd:={ r with src:=t,cM:=0 }
def find(r:Rd):Rd × Wd × Int :=
 if r.name.2.2≠0 then(r.next,Wd.none,r.name.2.2)else
 match r.v.x.mem.find r.name.2.1 r.eE with
 | some w=>(r.next,w,0)
 | none=>(r.next,Wd.none,-13)
def cY(r:Rd):Rd:=if r.is then r else { r with cu:=r.v.x.cu,cF:=(r.v.cell r.v.cF).1,is:=true }
def oB(r:Rd):Rd:={ r with cu:=0,cF:=0,is:=false }
def start(r:Rd)(m:Bool):Rd:={ r with comp:=true,eM:=m,dy:=[] }
def stop(r:Rd):Rd × Int:=if r.comp=false\/r.dy≠[] then(r,-22)else({ r with comp:=false },0)
def nU(r:Rd)(h l n:Int):Rd:={ r with v:=((r.v.fB (r.v.x.fN h)).1.setCell l n).1 }
def kf(r:Rd)(cF:Int)(s:List UInt8)(n fl:Int):Rd:={ r with v:={ r.v with x:=(r.v.x.cO cF s fl n).1 } }
def gI(r:Rd)(cF:Int)(s:List UInt8)(n fl:Int)(l:List Int):Rd × Int :=
 if(r.v.x.cO cF s fl n).2.2≠0 then(r.kf cF s n fl,(r.v.x.cO cF s fl n).2.2)else eR l (r.kf cF s n fl)
def make(r:Rd)(cF:Int)(s:List UInt8)(n fl:Int)(l:List Int):Rd × Wd × Int :=
 if(r.gI cF s n fl l).2≠0 then((r.gI cF s n fl l).1.nU r.v.x.cu cF (r.v.cell cF).1,Wd.none,(r.gI cF s n fl l).2)
 else({ (r.gI cF s n fl l).1 with ea:=(r.v.x.cO cF s fl n).2.1 },(r.v.x.cO cF s fl n).2.1,0)
def mark(r:Rd)(d:Wd)(fl:Int):Rd × Int:=r.vm (r.v.mem (r.v.x.mem.iZ d.cM fl).1,(r.v.x.mem.iZ d.cM fl).2)
def iU(nm:List UInt8):Int:=if Tf nm=false then 0 else if 0<inl nm\/nm=[40,100,111,41]\/nm=[40,99,97,117,103,104,116,41]\/nm=[40,101,120,105,116,109,41]\/nm=[101,120,105,116] then 2 else 1
def oY(r:Rd)(d:Wd):Int:=iU (fc (r.v.cell d.xt).1)
def pR(r:Rd)(t:List UInt8):Rd:={ r with v:=r.v.put t }
def skip(r:Rd):Rd:={ r with cM:=Src.lL r.src r.cM }
def eW(e:Int):List UInt8:=63 :: (Lib.itoa e++[10])
def eK(v:VM)(e:Int):VM:=(((v.put (eW e)).fE 0).1.dw 0).1
def lM(r:Rd)(e:Int):Rd :=
 let u:={ r with v:=eK r.v e }
 let t:=if u.is then { u.nU u.cu u.v.cF u.cF with ea:=Wd.none } else u
 { t.oB with comp:=false,eM:=false,dy:=[] }
end Rd
structure Mm(α:Type) where
 has:List UInt8->Bool
 dA:List UInt8->Rd × α->(Rd × α) × Int
 reset:Rd × α->Rd × α
 iE:Rd->Prop:=fun _=>True
namespace Mm
variable {α:Type} (E:Mm α)
def fail(q:Rd × α)(e:Int):Rd × α:=let p:=E.reset (q.1.lM e,q.2);(p.1.skip,p.2)
end Mm
structure Oo where
 dq:Int × Int->Option Int
 iR:Int->Option Int
 eN:Int
 dA:Wd
 root:Int
 eH:List Int
 target:Int
 cZ:Int
 xt:Int
 eb:List (List UInt8)
namespace Oo
abbrev Q:=Rd × Oo
def start:Oo:=⟨fun _=>none,fun _=>none,0,Wd.none,0,[],0,0,0,[]⟩
def iz(f:Int × Int->Option Int)(k:Int × Int)(v:Option Int):Int × Int->Option Int:=fun x=>if x=k then v else f x
def PF(f:Int->Option Int)(k:Int)(v:Option Int):Int->Option Int:=fun x=>if x=k then v else f x
def bind(q:Q × Int)(f:Q->Q × Int):Q × Int:=if q.2≠0 then q else f q.1
def rd(q:Q)(p:Rd × Int):Q × Int:=((p.1,q.2),p.2)
def mem(q:Q):Mem:=q.1.v.x.mem
def ku(m:Mem)(fl:Int × Int->Option Int)(root:Int):Nat->Int->List Int
 | 0,_=>[]
 | k+1,c=>if(Class.cT m c).2=false then [] else(fl (root,c)).toList++ku m fl root k (Class.cT m c).1.cE
def iG(q:Q)(c:Int):List Int:=ku (mem q) q.2.dq q.1.v.root (Class.all (mem q) q.1.v.root).length c++[q.1.v.cF]
def order(q:Q)(l:List Int):Q:=({ q.1 with eE:=l },q.2)
def nV(m:Mem)(root xt:Int):Int × Int :=
 if(m.cell (xt+8)).2≠0\/(m.cell xt).1≠1003\/Class.is m root (m.cell (xt+8)).1=false then(0,-2048)else((m.cell (xt+8)).1,0)
def cJ(r:Rd):Rd × Int × Int :=
 if r.find.2.2≠0 then(r.find.1,0,r.find.2.2)else(r.find.1,nV r.find.1.v.x.mem r.find.1.v.root r.find.2.1.xt)
def cR(q:Q):Q × Int × Int :=
 if q.1.name.2.2≠0 then((q.1.next,q.2),0,q.1.name.2.2)
 else((q.1.next,{ q.2 with eb:=(gu q.2.eb q.1.dt).1 }),(gu q.2.eb q.1.dt).2)
def rest(r:Rd):List UInt8:=r.src.drop r.cM
def cE(r:Rd):Rd × Int × Int:=if r.dt=[45] then(r.next,0,0)else cJ (r.next.again (rest r))
def reset(q:Q):Q :=
 if q.2.eN≠0 then({ (q.1.setCell q.1.v.root q.2.root).1 with eE:=[q.1.v.cF] },{ q.2 with dq:=iz q.2.dq (q.1.v.root,q.2.eN) none,eN:=0,eH:=[],target:=0 })
 else({ q.1 with eE:=[q.1.v.cF] },{ q.2 with eN:=0,eH:=[],target:=0 })
def apart(q:Q):Bool:=decide (q.2.eN=0) && !q.1.comp
def iK(q:Q):Bool:=decide (q.2.eN≠0) && !q.1.comp
def pF(q:Q):Q × Int :=
 let t:=q.1.v.x.cF
 let r:Rd:={ q.1 with v:={ q.1.v with x:=t.1 } }
 if t.2.2≠0 then((r,q.2),t.2.2)else
 let o:={ q.2 with dq:=iz q.2.dq (q.1.v.root,q.2.eN) (some t.2.1) }
 (order (r,o) (iG (r,o) q.2.eN),0)
def mj(q:Q)(s:List UInt8):Q × Int :=
 let t:=q.1.make q.1.v.cF s 1003 2 [q.2.eN]
 if t.2.2≠0 then((t.1,{ q.2 with dA:=t.2.1 }),t.2.2)else pF (t.1,{ q.2 with dA:=t.2.1 })
def rI(q:Q)(s:List UInt8)(p:Int):Q × Int :=
 let r:=q.1.cY
 let o:={ q.2 with root:=(r.v.cell r.v.root).1 }
 let t:=Class.new r.v.x r.v.root p r.v.cy
 let r1:Rd:={ r with v:={ r.v with x:=t.1 } }
 if t.2.2≠0 then((r1,o),t.2.2)else mj (r1,{ o with eN:=t.2.1 }) s
def pX(q:Q):Q × Int :=
 if apart q=false then(q,-22)else
 if q.1.name.2.2≠0 then((q.1.next,q.2),q.1.name.2.2)else
 let p:=cE q.1.next
 if p.2.2≠0 then((p.1,q.2),p.2.2)else rI (p.1,q.2) q.1.dt p.2.1
def asked(m:Mem)(c:Int):List Int->Int
 | []=>0
 | a :: l=>if(Iface.EJ m a c).2≠0 then(Iface.EJ m a c).2 else asked m c l
def iS(q:Q):Q × Int :=
 if iK q=false then(q,-22)else
 if asked (mem q) q.2.eN q.2.eH≠0 then(q,asked (mem q) q.2.eN q.2.eH)else
 (({ (q.1.mark q.2.dA 0).1 with eE:=[q.1.v.cF] }.oB,{ q.2 with eN:=0,eH:=[] }),0)
def dI(r:Rd)(m:Mem):Rd:={ r with v:={ r.v with x:={ r.v.x with mem:=m } } }
def Mo(q:Q):Q × Int :=
 if iK q=false then(q,-22)else
 if q.1.name.2.2≠0 then((q.1.next,q.2),q.1.name.2.2)else
 let t:=Class.grow q.1.next.v.x.mem q.2.eN 8
 if t.2.2≠0 then((dI q.1.next t.1,q.2),t.2.2)else
 let u:=(dI q.1.next t.1).make ((q.2.dq (q.1.v.root,q.2.eN)).getD 0) q.1.dt 1005 0 [t.2.1]
 ((u.1,q.2),u.2.2)
def sI(q:Q)(c n:Int):Q × Int :=
 let r:=q.1.cY
 let p:=r.vm (r.v.fB r.v.x.align)
 if p.2≠0 then((p.1,q.2),p.2)else
 let o:={ q.2 with target:=c,cZ:=n,xt:=p.1.v.x.cu }
 rd (p.1,o) ((order (p.1,o) (iG (p.1,o) c)).1.start true |>.cN 1004)
def begin(q:Q)(c:Int):Q × Int :=
 if(cR q).2.2≠0 then((cR q).1,(cR q).2.2)else sI (cR q).1 c (cR q).2.1
def method(q:Q):Q × Int:=if iK q=false then(q,-22)else begin q q.2.eN
def lO(q:Q):Q × Int :=
 if apart q=false then(q,-22)else
 if(cJ q.1).2.2≠0 then(((cJ q.1).1,q.2),(cJ q.1).2.2)else begin ((cJ q.1).1,q.2) (cJ q.1).2.1
def rJ(q:Q):Q × Int :=
 let t:=Class.set (mem q) q.1.v.root q.2.target q.2.cZ q.2.xt
 if t.2≠0 then((dI q.1 t.1,q.2),t.2)else
 let r:Rd:={ dI q.1 t.1 with eM:=false }
 if q.2.eN=0 then(({ r with eE:=[r.v.cF] }.oB,{ q.2 with target:=0 }),0)else((r,{ q.2 with target:=0 }),0)
def D5(q:Q):Q × Int :=
 if q.1.eM=false then(q,-22)else
 bind (rd q q.1.stop) fun q=>bind (rd q (q.1.di [40,101,120,105,116,109,41] [])) rJ
def PG:List UInt8:=[101,110,100,105,110,116,101,114,102,97,99,101]
def QM:Nat->Q->List Int->Q × List Int × Int
 | 0,q,l=>(q,l,-16)
 | k+1,q,l =>
  if q.1.name.2.2≠0 then((q.1.next,q.2),l,q.1.name.2.2)else
  if cG q.1.dt=PG then((q.1.next,q.2),l,0)else
  let t:=gu q.2.eb q.1.dt
  let q1:Q:=(q.1.next,{ q.2 with eb:=t.1 })
  if t.2.2≠0 then(q1,l,t.2.2)else QM k q1 (l++[t.2.1])
def Sl(q:Q)(s:List UInt8)(l:List Int):Q × Int :=
 let t:=Iface.new q.1.v.x l
 let r:Rd:={ q.1 with v:={ q.1.v with x:=t.1 } }
 if t.2.2≠0 then((r,q.2),t.2.2)else
 let u:=r.make r.v.cF s 1003 0 [t.2.1]
 if u.2.2≠0 then((u.1,q.2),u.2.2)else((u.1,{ q.2 with iR:=PF q.2.iR u.2.1.xt (some t.2.1) }),0)
def iface(q:Q):Q × Int :=
 if apart q=false then(q,-22)else
 if q.1.name.2.2≠0 then((q.1.next,q.2),q.1.name.2.2)else
 let t:=QM (q.1.src.length+1) (q.1.next,q.2) []
 if t.2.2≠0 then(t.1,t.2.2)else Sl t.1 q.1.dt t.2.1
def D6(q:Q):Q × Int :=
 if iK q=false then(q,-22)else
 if q.1.find.2.2≠0 then((q.1.find.1,q.2),q.1.find.2.2)else
 match q.2.iR q.1.find.2.1.xt with
 | none=>((q.1.find.1,q.2),-2048)
 | some a=>((q.1.find.1,{ q.2 with eH:=q.2.eH++[a] }),0)
def TQ(r:Rd)(s:List UInt8)(n:Int):Rd × Int :=
 if r.comp then r.di s [n] else
 Rd.bind (r.vm (r.v.fB r.v.x.align)) fun r1 =>
 Rd.bind (r1.cN 1001) fun r2=>Rd.bind (r2.di s [n]) fun r3=>Rd.bind (r3.di [101,120,105,116] []) fun r4=>r4.vm (r4.v.run r1.v.x.cu)
def TR(q:Q)(s:List UInt8)(n:Int):Q × Int:=rd q (TQ q.1 s n)
def send(q:Q):Q × Int :=
 if(cR q).2.2≠0 then((cR q).1,(cR q).2.2)else TR (cR q).1 [40,115,101,110,100,41] (cR q).2.1
def early(q:Q):Q × Int :=
 if(cJ q.1).2.2≠0 then(((cJ q.1).1,q.2),(cJ q.1).2.2)else
 let r:=(cJ q.1).1
 if r.name.2.2≠0 then((r.next,q.2),r.name.2.2)else
 let t:=Class.lookup r.next.v.x.mem (cJ q.1).2.1 (fi q.2.eb r.dt)
 if t.2.2=false then((r.next,q.2),-2049)else TR (r.next,q.2) [40,99,97,108,108,41] t.1.xt
def xR(q:Q):Q × Int :=
 if q.1.eM=false then(q,-14)else
 if(cR q).2.2≠0 then((cR q).1,(cR q).2.2)else
 rd (cR q).1 ((cR q).1.1.di [40,115,117,112,101,114,41] [(Class.cT (mem (cR q).1) q.2.target).1.cE,(cR q).2.1])
def lN(q:Q):Q × Int :=
 if apart q=false then(q,-22)else
 if(cJ q.1).2.2≠0 then(((cJ q.1).1,q.2),(cJ q.1).2.2)else
 let r:=(cJ q.1).1
 if r.name.2.2≠0 then((r.next,q.2),r.name.2.2)else
 let t:=Obj.dV r.next.v.x (cJ q.1).2.1
 let r1:Rd:={ r.next with v:={ r.next.v with x:=t.1 } }
 if t.2.2≠0 then((r1,q.2),t.2.2)else
 let u:=r1.make r1.v.cF r.dt 1003 0 [t.2.1]
 ((u.1,q.2),u.2.2)
def Wf(f:Nat)(q:Q):Q × Int :=
 if f=160 then pX q
 else if f=161 then iS q
 else if f=162 then Mo q
 else if f=163 then method q
 else if f=164 then lO q
 else if f=165 then D5 q
 else if f=166 then iface q
 else if f=167 then D6 q
 else if f=168 then send q
 else if f=169 then early q
 else if f=170 then xR q
 else lN q
end Oo
set_option maxRecDepth 10000
set_option maxHeartbeats 4000000
namespace Sp
end Sp
namespace Mem
structure iP(m m':Mem)(H:Nat):Prop where
 size:m'.size=m.size
 Uz:∀ i,i<8*H->m'.bits.testBit i=m.bits.testBit i
theorem iP.refl(m:Mem)(H:Nat):iP m m H:=⟨rfl,fun _ _=>rfl⟩
theorem iP.trans{m b c:Mem}{H:Nat}(h:iP m b H)(k:iP b c H):iP m c H:=⟨k.size.trans h.size,fun i a=>(k.Uz i a).trans (h.Uz i a)⟩
theorem iP.CB{m m':Mem}{H J:Nat}(h:iP m m' H)(b:J<=H):iP m m' J:=⟨h.size,fun i a=>h.Uz i (by omega)⟩
theorem xO{m m':Mem}{H:Nat}(h:iP m m' H)(a n:Nat)(c:a+n<=H):m'.get a n=m.get a n:=by
 apply Nat.eq_of_testBit_eq;intro j;rw[fK,fK];by_cases b:j<8*n
 . rw[h.Uz _ (by omega)]
 . simp[b]
theorem xP(m:Mem)(a n v H:Nat)(b:H<=a):iP m (m.put a n v) H:=⟨rfl,fun i c=>by rw[nB,if_neg (by omega)]⟩
theorem Mn{m m':Mem}{H:Nat}(h:iP m m' H)(a:Int):m'.cM a=m.cM a:=gj h.size a
theorem vE{m m':Mem}{H:Nat}(h:iP m m' H)(a:Int)(c:a+8<=H):m'.cell a=m.cell a:=by
 unfold cell;rw[Mn h];split
 . rename_i b
   rw[dX]at b;rw[xO h _ _ (by omega)]
 . rfl
theorem DZ{m m':Mem}{H:Nat}(h:iP m m' H)(a n:Int)(d:a+n<=H):m'.dJ a n=m.dJ a n:=by
 unfold dJ;have c:m'.has a n=m.has a n:=by unfold has;rw[h.size]
 rw[c];split
 . rename_i b
   rw[eI]at b;rw[xO h _ _ (by omega)]
 . rfl
end Mem
namespace Mem
theorem wO(m:Mem)(a n:Int)(H:Nat)(b:(H:Int)<=a):iP m (m.Yo a n).1 H:=by
 unfold Yo;split
 . exact xP _ _ _ _ _ (by omega)
 . exact iP.refl _ _
theorem wP(m:Mem)(a:Int)(s:List UInt8)(H:Nat)(b:(H:Int)<=a):iP m (m.cS a s).1 H:=by
 unfold cS;split
 . exact xP _ _ _ _ _ (by omega)
 . exact iP.refl _ _
theorem zo(m:Mem)(a:Int)(s:List UInt8)(h:m.has a s.length=true):(m.cS a s).2=0/\(m.cS a s).1.dJ a s.length=(s,0):=by
 unfold cS;rw[if_pos h];refine⟨rfl,?_⟩;unfold dJ;have b:(m.put a.toNat s.length (qH s)).has a s.length=true:=h;rw[if_pos b];refine Prod.ext ?_ rfl;show fg s.length ((m.put a.toNat s.length (qH s)).get a.toNat s.length)=s;rw[nC,Nat.mod_eq_of_lt (QZ s),ui]
theorem qz{m m':Mem}{a n:Int}(g:m'.size=m.size)(x:a % 8=0)(w:0<=a)(C:0<=n)(B:a+dN n<=m.size)(q:∀ b,a<=b->b<a+dN n->m'.cell b=m.cell b):m'.dJ a n=m.dJ a n:=by
 have s:m'.has a n=m.has a n:=by unfold has;rw[g]
 unfold dJ;rw[s];have A:n<=dN n/\dN n % 8=0:=by unfold dN;omega
 have r:m'.get a.toNat (dN n).toNat=m.get a.toNat (dN n).toNat:=by
  obtain⟨k,t⟩:∃ k:Nat,(dN n).toNat=8*k:=⟨(dN n).toNat / 8,by omega⟩;rw[t];have v:∀ j,j<=k->m'.get a.toNat (8*j)=m.get a.toNat (8*j):=by
   intro j;induction j with
   | zero=>intro _;simp[ug]
   | succ j u =>
    intro y;apply Nat.eq_of_testBit_eq;intro i;rw[fK,fK];by_cases d:i<8*(8*j)
    . have:=congrArg (fun z=>z.testBit i) (u (by omega))
      simp only[fK,d,decide_true,Bool.true_and]at this;rw[this]
    . by_cases e:i<8*(8*(j+1))
      . have c:=q (a+8*j) (by omega) (by omega)
        have f:m.cM (a+8*j)=0:=by rw[dX];omega
        rw[kI m _ f,kI m' _ (by rw[gj g];exact f)]at c;have c:=congrArg u64 (congrArg Prod.fst c);simp only at c;have h:=m.lf (a+8*(j:Int)).toNat 8;have l:=m'.lf (a+8*(j:Int)).toNat 8;rw[tP _ (by simpa using l),tP _ (by simpa using h)]at c;have:=congrArg (fun z=>z.testBit (i-8*(8*j))) c;simp only[fK]at this;have o:i-8*(8*j)<8*8:=by omega
        have p:8*(a+8*(j:Int)).toNat+(i-8*(8*j))=8*a.toNat+i:=by omega
        simp only[o,decide_true,Bool.true_and,p]at this;rw[this]
      . simp[e]
  exact v k (Nat.le_refl _)
 have d:=yx m' a.toNat (dN n).toNat 0 n.toNat (by omega);have e:=yx m a.toNat (dN n).toNat 0 n.toNat (by omega);simp only[Nat.mul_zero,Nat.shiftRight_zero,Nat.add_zero]at d e;rw[<- d,<- e,r]
theorem zp{m m':Mem}{a:Int}(d:m'.size=m.size)(i:a % 8=0)(h:0<=a)(n:Int)(e:(m.cell (a+8)).1 % 256=n)(l:a+24+dN n<=m.size)(c:∀ b,a<=b->b<a+16+dN n->m'.cell b=m.cell b):m'.Ym a=m.Ym a:=by
 have f:0<=n/\n<=dN n:=by unfold dN;omega
 unfold Ym;rw[c a (by omega) (by omega),c (a+8) (by omega) (by omega)];simp only;rw[e];split
 . rfl
 . have g:(m'.cell (a+16+dN n)).2=(m.cell (a+16+dN n)).2:=by rw[jo,jo,gj d]
   rw[g,qz d (by omega) (by omega) f.1 (by omega) (fun b j k=>c b (by omega) (by omega))]
end Mem
namespace Sp
open Mem (dN)
theorem Iq(k:Nat):∀ {x:Sp},x.Ok->dN x.cu<=x.to->dN x.cu-x.cu<=k->∃ m',fD k x=(⟨m',x.lo,x.to,dN x.cu⟩,0)/\Mem.iP x.mem m' x.cu.toNat:=by
 induction k with
 | zero =>
  intro x b j h;refine⟨x.mem,?_,Mem.iP.refl _ _⟩;have:dN x.cu=x.cu:=by unfold dN at *;omega
  rw[this];rfl
 | succ k l =>
  intro x b j h;obtain⟨m,p,q,n⟩:=b;by_cases a:x.cu % 8=0
  . refine⟨x.mem,?_,Mem.iP.refl _ _⟩
    have:dN x.cu=x.cu:=by unfold dN;omega
    unfold fD;rw[if_pos a,this]
  . have o:x.cu+1<=dN x.cu:=by unfold dN;omega
    have g:x.mem.has x.cu 1=true:=by rw[Mem.eI];omega
    have f:x.char 0=({ x with mem:=(x.mem.Yo x.cu 0).1,cu:=x.cu+1 },0):=by
     unfold char put gA;have d:(x.mem.Yo x.cu 0).2=0:=by unfold Mem.Yo;rw[if_pos g]
     rw[if_pos (by omega),d,if_neg (by simp),if_neg (by simp only;omega)]
    have i:dN (x.cu+1)=dN x.cu:=by unfold dN;omega
    unfold fD;rw[if_neg a,f,if_neg (by simp)];obtain⟨m',e,c⟩:=l (x:={ x with mem:=(x.mem.Yo x.cu 0).1,cu:=x.cu+1 }) ⟨m,by show x.lo<=x.cu+1;omega,by show x.cu+1<=x.to;omega,by show x.to<=((x.mem.Yo x.cu 0).1.size:Int);rw[Mem.kH];exact n⟩ (by show dN (x.cu+1)<=x.to;omega) (by show dN (x.cu+1)-(x.cu+1)<=_;omega);refine⟨m',?_,(Mem.wO x.mem x.cu 0 _ (by omega)).trans (c.CB (by show x.cu.toNat<=(x.cu+1).toNat;omega))⟩;show fD k _=_;rw[e];rw[i]
theorem tF{x:Sp}(h:x.Ok)(t:List UInt8)(i:x.cu+t.length<=x.to):x.jl t=({ x with mem:=(x.mem.cS x.cu t).1,cu:=x.cu+t.length },0)/\(x.mem.cS x.cu t).1.dJ x.cu t.length=(t,0):=by
 obtain⟨d,e,f,g⟩:=h;have c:x.mem.has x.cu t.length=true:=by rw[Mem.eI];omega
 obtain⟨a,b⟩:=Mem.zo x.mem x.cu t c;refine⟨?_,b⟩;unfold jl put gA;rw[if_pos (by omega),a,if_neg (by simp),if_neg (by simp only;omega)]
theorem vF{x:Sp}(ag:x.Al)(l f:Int)(a:List UInt8)(c i:Int)(hn:a≠[])(am:a.length<=31)(F:x.mem.cell l=(f,0))(al:l+8<=x.cu)(f0:0<=c)(f1:c<=255)(ab:dB i)(hm:x.mem.size<=4194304)
 (hr:x.cu+24+dN a.length<=x.to) :
 ∃ x',x.cO l a c i=(x',⟨x.cu,x.cu+16+dN a.length,c,cG a⟩,0)/\x'.Al/\x'.lo=x.lo/\x'.to=x.to/\x'.cu=x.cu+24+dN a.length/\x'.mem.size=x.mem.size /\
  x'.mem.cell l=(x.cu,0)/\x'.mem.cell (x.cu+16+dN a.length)=(i,0)/\x'.mem.Ym x.cu=some (⟨x.cu,x.cu+16+dN a.length,c,cG a⟩,f) /\
  (∀ b,b≠l->b<x.cu->x'.mem.cell b=x.mem.cell b):=by
 obtain⟨⟨J,o2,o3,K⟩,L⟩:=ag;have ac:(cG a).length=a.length:=by unfold cG;simp
 have an:1<=a.length:=by cases a with | nil=>exact absurd rfl hn | cons=>simp
 have hp:(a.length:Int)<=dN a.length/\dN a.length % 8=0:=by unfold dN;omega
 have W:x.mem.cM l=0:=by
  have:=congrArg Prod.snd F
  rwa [Mem.jo]at this
 have ak:=(Mem.dX _ _).1 W;have aa:dB f:=by have:=Mem.fh x.mem l;rw[F]at this;exact this
 have e0:x.align=(x,0):=mK L;have P:x.Al:=⟨⟨J,o2,o3,K⟩,L⟩;have e1:=iV P (by omega) f;have A1:(x.wr [f]).Al:=P.wr (by simp only[List.length_cons,List.length_nil];omega);have h1:(x.wr [f]).cu=x.cu+8:=rfl;have t1:(x.wr [f]).to=x.to:=rfl;have S:=iV A1 (by rw[h1,t1];omega) (a.length+c*256);rw[<- tQ]at S;have A2:(x.wr [f,a.length+c*256]).Al:=P.wr (by simp only[List.length_cons,List.length_nil];omega);have V:(x.wr [f,a.length+c*256]).cu=x.cu+16:=rfl;obtain⟨d,Y⟩:∃ y,y=x.wr [f,a.length+c*256]:=⟨_,rfl⟩;have I:d.mem=x.mem.fk x.cu [f,a.length+c*256]:=by rw[Y];rfl
 have o:d.lo=x.lo/\d.to=x.to:=by rw[Y];exact⟨rfl,rfl⟩
 rw[<- Y]at S A2 V;have z2:d.mem.size=x.mem.size:=by rw[I,Mem.gE]
 obtain⟨T,x3⟩:=tF A2.ok (cG a) (by rw[V,ac,o.2];omega);rw[V,ac]at T x3;have ad:((d.mem.cS (x.cu+16) (cG a)).1).size=x.mem.size:=by rw[Mem.eh,z2]
 obtain⟨j,w⟩:∃ y:Sp,y={ d with mem:=(d.mem.cS (x.cu+16) (cG a)).1,cu:=x.cu+16+a.length }:=⟨_,rfl⟩;rw[<- w]at T;have k3:j.Ok:=by
  rw[w];refine⟨by show 0<=d.lo;rw[o.1];exact J,by show d.lo<=x.cu+16+a.length;rw[o.1];omega,by show x.cu+16+a.length<=d.to;rw[o.2];omega,?_⟩;show d.to<=((d.mem.cS (x.cu+16) (cG a)).1.size:Int);rw[ad,o.2];exact K
 have E:j.cu=x.cu+16+a.length:=by rw[w]
 have X:dN j.cu=x.cu+16+dN a.length:=by rw[E];unfold dN;omega
 have Z:j.lo=x.lo/\j.to=x.to:=by rw[w];exact o
 have U:j.mem=(d.mem.cS (x.cu+16) (cG a)).1:=by rw[w]
 obtain⟨h,e4,Q⟩:=Iq 8 k3 (by rw[X,Z.2];omega) (by rw[X,E];unfold dN;omega);rw[X,Z.1,Z.2]at e4;have t:h.size=x.mem.size:=by rw[Q.size,U,ad]
 have A4:(⟨h,x.lo,x.to,x.cu+16+dN a.length⟩:Sp).Al:=⟨⟨J,by show x.lo<=x.cu+16+dN a.length;omega,by show x.cu+16+dN a.length<=x.to;omega,by show x.to<=(h.size:Int);rw[t];exact K⟩,by show(x.cu+16+dN a.length) % 8=0;omega⟩;have e5:=iV A4 (by show x.cu+16+dN a.length+8<=x.to;omega) i;have A5:=A4.wr (l:=[i]) (by show x.cu+16+dN a.length+8*(([i]:List Int).length:Int)<=x.to;simp only[List.length_cons,List.length_nil];omega)
 -- what stands there
 have R:∀ b,b<x.cu+16->h.cell b=d.mem.cell b:=by
  intro b k;by_cases aj:b+8<=x.cu+16
  . have M:h.cell b=j.mem.cell b:=Mem.vE Q b (by rw[E];omega)
    have N:j.mem.cell b=d.mem.cell b:=by
     rw[U];exact Mem.vE (Mem.wP d.mem (x.cu+16) (cG a) (x.cu+16).toNat (by omega)) b (by omega)
    rw[M,N]
  . have n1:d.mem.cM b≠0:=by rw[Ne,Mem.dX];omega
    have n2:h.cM b=d.mem.cM b:=Mem.gj (by rw[t,z2]) b;rw[Mem.iM _ _ n1,Mem.iM _ _ (by rw[n2];exact n1),n2]
 have w0:d.mem.cell x.cu=(f,0):=by
  have:=Mem.kU x.mem x.cu [f,a.length+c*256] L (by omega) (by simp only[List.length_cons,List.length_nil];omega) (by intro n v;simp only[List.mem_cons,List.not_mem_nil,or_false]at v;rcases v with rfl | rfl;exact aa;unfold dB;omega) 0 (by simp);rw[I];simpa using this
 have w1:d.mem.cell (x.cu+8)=(a.length+c*256,0):=by
  have:=Mem.kU x.mem x.cu [f,a.length+c*256] L (by omega) (by simp only[List.length_cons,List.length_nil];omega) (by intro n v;simp only[List.mem_cons,List.not_mem_nil,or_false]at v;rcases v with rfl | rfl;exact aa;unfold dB;omega) 1 (by simp);rw[I];simpa using this
 have t4:h.dJ (x.cu+16) a.length=(cG a,0):=by
  have q:h.dJ (x.cu+16) a.length=j.mem.dJ (x.cu+16) a.length:=Mem.DZ Q _ _ (by rw[E];omega);rw[q,U,x3]
 obtain⟨p,G⟩:∃ m,m=(h.setCell (x.cu+16+dN a.length) i).1:=⟨_,rfl⟩;have z5:p.size=x.mem.size:=by rw[G,Mem.cQ,t]
 obtain⟨g,H⟩:∃ m,m=(p.setCell l x.cu).1:=⟨_,rfl⟩;have O:g.size=x.mem.size:=by rw[H,Mem.cQ,z5]
 have k6:(p.setCell l x.cu).2=0:=by rw[Mem.jq,Mem.gj z5,W]
 have D:∀ b,b≠x.cu+16+dN a.length->p.cell b=h.cell b:=fun b k=>by rw[G,Mem.dQ _ _ _ _ k]
 have u:∀ b,b≠l->g.cell b=p.cell b:=fun b k=>by rw[H,Mem.dQ _ _ _ _ k]
 have ai:x.cO l a c i=(⟨g,x.lo,x.to,x.cu+24+dN a.length⟩,⟨x.cu,x.cu+16+dN a.length,c,cG a⟩,0):=by
  obtain⟨q0,M,N,q3,q4,q5,q6,s0,r,z,A,B,C,s,_,_,_,_,_,_,_,af⟩:=qN x l a c i (by intro e;rcases e with e | e;exact hn e;omega);rw[F,if_pos rfl,e0]at s0;subst s0;have r:=r rfl;rw[F]at r;simp only at r;rw[e1]at r;subst r;have z:=z rfl;simp only at z;rw[S]at z;subst z;have A:=A rfl;simp only at A;rw[T]at A;subst A;have B:=B rfl;have ae:j.align=(⟨h,x.lo,x.to,x.cu+16+dN a.length⟩,0):=e4;simp only at B;rw[ae]at B;subst B;have C:=C rfl;simp only at C;rw[e5]at C;subst C;have s:=s rfl;have hw:((⟨h,x.lo,x.to,x.cu+16+dN a.length⟩:Sp).wr [i])=⟨p,x.lo,x.to,x.cu+24+dN a.length⟩:=by
   unfold wr;rw[G];simp only[List.length_cons,List.length_nil,Mem.fk];congr 1;omega
  rw[hw]at s;have s:q6=((⟨g,x.lo,x.to,x.cu+24+dN a.length⟩:Sp),(0:Int)):=by
   rw[s];unfold mG;rw[k6,H]
  subst s;exact af rfl
 refine⟨_,ai,⟨⟨J,by show x.lo<=x.cu+24+dN a.length;omega,hr,by show x.to<=(g.size:Int);rw[O];exact K⟩,by show(x.cu+24+dN a.length) % 8=0;omega⟩,rfl,rfl,rfl,O,?_,?_,?_,?_⟩
 . show g.cell l=_
   rw[H];exact Mem.fe _ _ _ (by rw[Mem.gj z5];exact W) (by omega) (by omega)
 . show g.cell _=_
   rw[u _ (by omega),G];exact Mem.fe _ _ _ (by rw[Mem.dX,t];omega) ab.1 ab.2
 . show g.Ym x.cu=_
   have q0:g.cell x.cu=(f,0):=by rw[u _ (by omega),D _ (by omega),R _ (by omega),w0]
   have M:g.cell (x.cu+8)=(a.length+c*256,0):=by rw[u _ (by omega),D _ (by omega),R _ (by omega),w1]
   have N:(g.cell (x.cu+16+dN a.length)).2=0:=by rw[Mem.jo,Mem.dX,O];omega
   have q3:g.dJ (x.cu+16) a.length=(cG a,0):=by
    rw[<- t4];refine Mem.qz (by rw[O,t]) (by omega) (by omega) (by omega) (by rw[t];omega) fun b b1 b2=>?_;rw[u _ (by omega),D _ (by omega)]
   have d1:((a.length:Int)+c*256) % 256=a.length:=by omega
   have d2:((a.length:Int)+c*256) / 256=c:=by omega
   unfold Mem.Ym;rw[q0,M];simp only;rw[d1,d2,if_neg (by omega),N,q3,if_neg (by simp)]
 . intro b k ah
   show g.cell b=_;rw[u b k,D b (by omega),R b (by omega),I];exact Mem.gU _ _ _ _ (.inl ah)
end Sp
open Class (dG)
namespace Mem
def jG(m:Mem):List Wd->Int->Int->Prop
 | [],ea,a=>¬ (0<a/\a<ea)
 | w :: ws,ea,a=>(0<a/\a<ea)/\m.Ym a=some (w,(m.cell a).1)/\jG m ws a (m.cell a).1
theorem kO{m:Mem}{a:Int}{w:Wd}{l:Int}(e:m.Ym a=some (w,l)):w.cM=a/\w.xt=a+16+dN ((m.cell (a+8)).1 % 256)/\a % 8=0/\0<=a/\w.xt+8<=m.size/\0<=(m.cell (a+8)).1 % 256:=by
 unfold Ym at e;simp only at e;split at e
 . cases e
 . rename_i d
   split at e
   . cases e
   . rename_i f
     injection e with e;injection e with e _;subst e;have b:(m.cell a).2=0:=by
      by_cases h:(m.cell a).2=0
      . exact h
      . exact absurd (.inl h) d
     have c:(m.cell (a+16+dN ((m.cell (a+8)).1 % 256))).2=0:=by
      by_cases h:(m.cell (a+16+dN ((m.cell (a+8)).1 % 256))).2=0
      . exact h
      . exact absurd (.inl h) f
     rw[jo,dX]at b c;exact⟨rfl,rfl,b.2.2,b.1,c.2.1,Int.emod_nonneg _ (by decide)⟩
theorem jG.fR{m:Mem}:∀ {ws:List Wd} {b a:Int},m.jG ws b a->gT m b a=ws
 | [],_,_,h=>qg m _ _ h
 | w :: ws,b,a,h=>by
  obtain⟨c,d,e⟩:=h;rw[sQ m b a c d,e.fR]
theorem jG.still{m m':Mem}(hz:m'.size=m.size):∀ {ws:List Wd} {ea a:Int},m.jG ws ea a->(∀ w ∈ ws,∀ b,w.cM<=b->b<w.xt->m'.cell b=m.cell b)->m'.jG ws ea a
 | [],_,_,h,_=>h
 | w :: ws,ea,a,h,hc=>by
  obtain⟨h1,h2,h3⟩:=h;obtain⟨s1,s2,s3,s4,s5,s6⟩:=kO h2;have hp:(m.cell (a+8)).1 % 256<=dN ((m.cell (a+8)).1 % 256):=by unfold dN;omega
  have hw:=hc w (by simp)
  rw[s1,s2]at hw;rw[s2]at s5;refine⟨h1,?_,?_⟩
  . rw[zp hz s3 s4 _ rfl (by omega) hw,h2,hw a (by omega) (by omega)]
  . rw[hw a (by omega) (by omega)]
    exact jG.still hz h3 fun u hu=>hc u (by simp[hu])
theorem jG.CB{m:Mem}{ws:List Wd}{c last' a:Int}(h:m.jG ws c a)(i:last'<=c)(g:∀ w ∈ ws,w.cM<last'):m.jG ws last' a:=by
 cases ws with
 | nil=>exact fun e=>h ⟨e.1,by omega⟩
 | cons w ws =>
  obtain⟨d,b,f⟩:=h;have:=g w (by simp);rw[(kO b).1]at this;exact⟨⟨d.1,this⟩,b,f⟩
theorem jG.We{m:Mem}:∀ {ws:List Wd} {c a:Int},m.jG ws c a->∀ u ∈ ws,u.xt % 8=0
 | [],_,_,_,_,b=>by cases b
 | v :: ws,c,a,h,u,b=>by
  obtain⟨g,d,e⟩:=h;rcases List.mem_cons.1 b with rfl | b
  . obtain⟨i,f,j,_⟩:=kO d
    rw[f];unfold dN;omega
  . exact e.We u b
end Mem
structure eF where
 A:List Int
 T:List Int
 L:List dr
 ws:List Wd
 fx:List (Int × Int)
namespace eF
def off(D:eF)(p q:Int):Prop:=∀ j:Nat,j<D.L.length->q<=dG D.T j\/dG D.A j+40<=p
structure In(D:eF)(x:Sp):Prop where
 al:x.Al
 iE:Class.Good x.mem 8 D.A D.T D.L x.cu
 lo:x.lo=8
 xQ:x.to=60000
 size:x.mem.size=62880
 cu:32<=x.cu
 zero:x.mem.cell 0=(0,0)
 dD:x.mem.cell 16=(10,0)
 cF:(x.mem.cell 24).2=0
 chain:x.mem.jG D.ws x.mem.size (x.mem.cell 24).1
 iQ:∀ w ∈ D.ws,32<=w.cM/\w.cM<w.xt/\w.xt+8<=x.cu/\D.off w.cM w.xt
 fx:∀ p ∈ D.fx,x.mem.cell p.1=(p.2,0)/\32<=p.1/\p.1+8<=x.cu/\D.off p.1 (p.1+8)/\∀ w ∈ D.ws,p.1+8<=w.cM\/w.xt<=p.1
 pw:D.ws.Pairwise fun a b=>b.xt<=a.cM
 sl:∀ j:Nat,j<D.L.length->(Ref.get D.L j).cy=9/\(Ref.get D.L j).size=8
 tl:∀ j:Nat,j<D.L.length->32<=dG D.T j
namespace In
variable {D:eF} {x:Sp}
theorem fR(h:D.In x):x.mem.fR 24=D.ws:=by rw[Mem.ur,if_neg (by rw[h.cF];simp)];exact h.chain.fR
theorem cell(h:D.In x){a n:Int}(b:(a,n) ∈ D.fx):x.mem.cell a=(n,0):=(h.fx _ b).1
theorem QJ(h:D.In x){j:Nat}(a:j<D.L.length):16<=dG D.T j/\dG D.T j+232<=dG D.A j/\dG D.A j+40<=x.cu/\dG D.T j % 8=0/\dG D.A j % 8=0:=by
 have b:=h.iE.zY j a;have c:=(h.sl j a).1;omega
theorem move(h:D.In x){x':Sp}{n d:List Int}{a:List dr}(v:x'.Al)(y:Class.Good x'.mem 8 n d a x'.cu)(I:x'.lo=x.lo)(M:x'.to=x.to)(m:x'.mem.size=x.mem.size)(P:x.cu<=x'.cu)
 (z:x'.mem.cell 0=x.mem.cell 0) (i:∀ b,16<=b->b+8<=x.cu->D.off b (b+8)->x'.mem.cell b=x.mem.cell b) (r:∀ p q:Int,q<=x.cu->D.off p q->eF.off { D with A:=n,T:=d,L:=a } p q)
 (J:∀ j:Nat,j<a.length->(Ref.get a j).cy=9/\(Ref.get a j).size=8) (K:∀ j:Nat,j<a.length->32<=dG d j):eF.In { D with A:=n,T:=d,L:=a } x':=by
 have R:=h.cu;have E:=h.tl;have u:∀ b:Int,b<=24->D.off b (b+8):=fun b F j k=>.inl (by have:=E j k;omega);have o:=i 24 (by omega) (by omega) (u 24 (by omega));have H:∀ b,b % 8≠0->x'.mem.cell b=x.mem.cell b:=by
  intro b F;have s:x.mem.cM b≠0:=by rw[Ne,Mem.dX];omega
  have t:x'.mem.cM b=x.mem.cM b:=Mem.gj m b;rw[Mem.iM _ _ s,Mem.iM _ _ (by rw[t];exact s),t]
 refine⟨v,y,by rw[I];exact h.lo,by rw[M];exact h.xQ,by rw[m];exact h.size,by omega,z.trans h.zero,?_,by rw[o];exact h.cF,?_,?_,?_,h.pw,J,K⟩
 . rw[i 16 (by omega) (by omega) (u 16 (by omega))];exact h.dD
 . rw[o,m]
   refine h.chain.still m fun w l b N O=>?_;obtain⟨e,f,g,c⟩:=h.iQ w l;by_cases C:b % 8=0
   . have Q:=h.chain.We w l
     refine i b (by omega) (by omega) fun j k=>?_;have:=h.QJ k;rcases c j k with q | q
     . left;omega
     . right;omega
   . exact H b C
 . intro w l
   obtain⟨e,f,g,c⟩:=h.iQ w l;exact⟨e,f,by omega,r _ _ (by omega) c⟩
 . intro p G
   obtain⟨e,f,g,c,B⟩:=h.fx p G;exact⟨by rw[i p.1 (by omega) g c];exact e,f,by omega,r _ _ g c,B⟩
end In
end eF
namespace eF
namespace In
variable {D:eF} {x:Sp}
theorem ub(h:D.In x)(p q:Int)(b:x.cu<=p):D.off p q:=fun j a=>.inr (by have:=h.QJ a;omega)
theorem rH(h:D.In x):x.to+2880=x.mem.size:=by rw[h.xQ,h.size];rfl
theorem ie(h:D.In x){p n:Int}(f:x.mem.cell p=(n,0))(b:32<=p)(c:p+8<=x.cu)(d:D.off p (p+8))(e:∀ w ∈ D.ws,p+8<=w.cM\/w.xt<=p):eF.In { D with fx:=(p,n) :: D.fx } x :=
 ⟨h.al,h.iE,h.lo,h.xQ,h.size,h.cu,h.zero,h.dD,h.cF,h.chain,h.iQ,fun q a=>by
  rcases List.mem_cons.1 a with rfl | a
  . exact⟨f,b,c,d,e⟩
  . exact h.fx q a,h.pw,h.sl,h.tl⟩
theorem cN(h:D.In x)(n:Int)(l:dB n)(r:x.cu+8<=60000):x.cN n=(x.wr [n],0)/\(x.wr [n]).cu=x.cu+8/\eF.In { D with fx:=(x.cu,n) :: D.fx } (x.wr [n]):=by
 have t:=h.xQ;have i:=h.al.al;have q:=h.al.ok;have k:=h.cu;have s:=h.rH;have f:(x.wr [n]).Al:=h.al.wr (by simp only[List.length_cons,List.length_nil];omega);have e:(x.wr [n]).mem.size=x.mem.size:=Mem.gE _ _ _;have a:∀ b,b<x.cu->(x.wr [n]).mem.cell b=x.mem.cell b:=fun b c=>Mem.gU _ _ _ _ (.inl c);have d:(x.wr [n]).cu=x.cu+8:=rfl;have j:Class.Good (x.wr [n]).mem 8 D.A D.T D.L (x.wr [n]).cu:=h.iE.frame e a (by omega) (by rw[d];omega);have g:D.In (x.wr [n]):=h.move f j rfl rfl e (by omega) (a 0 (by omega)) (fun b _ c _=>a b (by omega)) (fun _ _ _ m=>m) h.sl h.tl;have o:(x.wr [n]).mem.cell x.cu=(n,0):=by
  have:=Mem.kU x.mem x.cu [n] i (by omega) (by simp only[List.length_cons,List.length_nil];omega) (by simpa using l) 0 (by simp);show(x.mem.fk x.cu [n]).cell x.cu=_;simpa using this
 exact⟨Sp.iV h.al (by omega) n,d,g.ie o k (by omega) (h.ub _ _ (Int.le_refl _)) (fun w p=>.inr (by have:=h.iQ w p;omega))⟩
theorem cO(h:D.In x)(c:List UInt8)(k m:Int)(Q:c≠[])(R:c.length<=31)(J:0<=k)(K:k<=255)(M:dB m)(hr:x.cu+64<=60000) :
 ∃ (x':Sp) (w:Wd),x.cO 24 c k m=(x',w,0)/\w.name=cG c/\w.cP=k/\w.cM=x.cu/\w.xt+8=x'.cu/\x'.cu<=x.cu+56/\eF.In { D with ws:=w :: D.ws,fx:=(w.xt,m) :: D.fx } x':=by
 have U:=h.xQ;have aa:=h.al.al;have ab:=h.al.ok;have P:=h.cu;have ac:=h.rH;have S:=h.size;obtain⟨j,B⟩:∃ j,x.mem.cell 24=(j,0):=⟨(x.mem.cell 24).1,Prod.ext rfl h.cF⟩;have hp:0<=Mem.dN c.length/\Mem.dN c.length<=32/\Mem.dN c.length % 8=0:=by unfold Mem.dN;omega
 obtain⟨x',e,t,V,W,X,l,v,I,F,g⟩:=Sp.vF h.al 24 j c k m Q R B (by omega) J K M (by omega) (by omega);refine⟨x',_,e,rfl,rfl,rfl,by rw[X];show x.cu+16+Mem.dN c.length+8=_;omega,by omega,?_⟩
 have O:Class.Good x'.mem 8 D.A D.T D.L x'.cu:=h.iE.CE l (fun a z=>by
  rcases z with z | ⟨i,E,Z,a2⟩
  . exact g a (by omega) (by omega)
  . have:=h.QJ E
    have:=h.tl i E
    exact g a (by omega) (by omega)) (by omega) (by have:=t.ok;unfold Sp.Ok at this;omega)
 have N:x'.mem.jG D.ws x.cu j:=by
  have y:=h.chain;rw[B]at y;refine(y.CB (last':=x.cu) (by omega) fun w f=>?_).still l fun w f b b1 b2=>?_
  . have:=h.iQ w f;omega
  . have:=h.iQ w f
    exact g b (by omega) (by omega)
 have C:x'.mem.cell x.cu=(j,0):=by
  have q:=Mem.sR F;have H:(x'.mem.cell x.cu).2=0:=by rw[Mem.jo,Mem.dX,l];omega
  exact Prod.ext q.symm H
 refine⟨t,O,by rw[V];exact h.lo,by rw[W];exact U,by rw[l];exact S,by omega,by rw[g 0 (by omega) (by omega)];exact h.zero,by rw[g 16 (by omega) (by omega)];exact h.dD,by rw[v],?_,?_,?_,?_,h.sl,h.tl⟩
 . rw[v,l]
   refine⟨by show 0<x.cu/\x.cu<_;omega,?_,?_⟩
   . show x'.mem.Ym x.cu=_
     rw[F,C]
   . show x'.mem.jG D.ws x.cu (x'.mem.cell x.cu).1
     rw[C];exact N
 . intro w f
   rcases List.mem_cons.1 f with rfl | f
   . exact⟨P,by show x.cu<x.cu+16+Mem.dN c.length;omega,by show x.cu+16+Mem.dN c.length+8<=_;omega,h.ub _ _ (Int.le_refl _)⟩
   . obtain⟨o,r,G,s⟩:=h.iQ w f
     exact⟨o,r,by omega,s⟩
 . intro p n
   rcases List.mem_cons.1 n with rfl | n
   . refine⟨I,by show 32<=x.cu+16+Mem.dN c.length;omega,by show x.cu+16+Mem.dN c.length+8<=_;omega,h.ub _ _ (by show x.cu<=x.cu+16+Mem.dN c.length;omega),fun u d=>?_⟩
     rcases List.mem_cons.1 d with rfl | d
     . exact .inr (by show x.cu+16+Mem.dN c.length<=x.cu+16+Mem.dN c.length;omega)
     . have:=h.iQ u d
       exact .inr (by show u.xt<=x.cu+16+Mem.dN c.length;omega)
   . obtain⟨o,r,G,s,Y⟩:=h.fx p n
     refine⟨by rw[g p.1 (by omega) (by omega)];exact o,r,by omega,s,fun u d=>?_⟩;rcases List.mem_cons.1 d with rfl | d
     . exact .inl G
     . exact Y u d
 . refine List.pairwise_cons.2 ⟨fun u d=>?_,h.pw⟩
   have:=h.iQ u d;show u.xt<=x.cu;omega
theorem pX(h:D.In x)(k:Option Nat)(f:∀ j,k=some j->j<D.L.length)(H:x.cu+272<=60000) :
 ∃ y:Sp,Class.new x 8 (Class.eO D.A k) 9=(y,x.cu+232,0)/\y.cu=x.cu+272/\eF.In { D with A:=D.A++[x.cu+232],T:=D.T++[x.cu],L:=Ref.new D.L (Class.cU k) 9 } y:=by
 have I:=h.xQ;have u:=h.cu;have r:(9:Int)=Class.yC D.L k 9:=by
  cases k with
  | none=>rfl
  | some j=>exact(h.sl j (f j rfl)).1.symm
 obtain⟨y,e,s,B,C,E,z,n,o⟩:=h.iE.new h.al (Int.le_refl _) k f 9 9 r (by omega) (by omega) (by omega);have t:x.cu+(2+9*3)*8=x.cu+232:=by omega
 rw[t]at e o E;have g:=Class.mN D.L k 9;rw[<- r]at g;have l:(Ref.new D.L (Class.cU k) 9).length=D.L.length+1:=by rw[g];simp
 have d:∀ j:Nat,j<D.L.length->dG (D.T++[x.cu]) j=dG D.T j/\dG (D.A++[x.cu+232]) j=dG D.A j:=fun j a=>⟨Class.mM _ _ _ (by rw[h.iE.nT];exact a),Class.mM _ _ _ (by rw[h.iE.nA];exact a)⟩;have m:dG (D.T++[x.cu]) D.L.length=x.cu/\dG (D.A++[x.cu+232]) D.L.length=x.cu+232:=by
  refine⟨?_,?_⟩
  . rw[<- h.iE.nT];exact Class.ly _ _
  . rw[<- h.iE.nA];exact Class.ly _ _
 refine⟨y,e,by omega,h.move s o B C z (by omega) (n 0 (.inl (by omega)) (by omega)) (fun b F G _=>n b (.inl (by omega)) (by omega)) (fun p q w v j a=>?_) (fun j a=>?_) (fun j a=>?_)⟩
 . have a:j<(Ref.new D.L (Class.cU k) 9).length:=a
   rw[l]at a;show q<=dG (D.T++[x.cu]) j\/dG (D.A++[x.cu+232]) j+40<=p;by_cases c:j<D.L.length
   . rw[(d j c).1,(d j c).2];exact v j c
   . have:j=D.L.length:=by omega
     subst this;rw[m.1];exact .inl w
 . rw[l]at a
   rw[g];by_cases c:j<D.L.length
   . rw[Ref.mL D.L _ j c];exact h.sl j c
   . have:j=D.L.length:=by omega
     subst this;rw[Ref.jI];refine⟨rfl,?_⟩;show Class.sizeOf D.L k=8;cases k with
     | none=>rfl
     | some i=>exact(h.sl i (f i rfl)).2
 . rw[l]at a
   by_cases c:j<D.L.length
   . rw[(d j c).1];exact h.tl j c
   . have:j=D.L.length:=by omega
     subst this;rw[m.1];exact u
theorem Vf(h:D.In x){c:Nat}(g:c<D.L.length)(a xt:Int)(r:dB a)(s:dB xt)(v:Ref.set D.L c a xt=(Ref.put D.L c a xt,0)) :
 ∃ m':Mem,Class.set x.mem 8 (dG D.A c) a xt=(m',0)/\eF.In { D with L:=Ref.put D.L c a xt } { x with mem:=m' }:=by
 obtain⟨k,l,m,n⟩:=h.iE.set g a xt r s;rw[v]at k n;have f:(Ref.put D.L c a xt).length=D.L.length:=by unfold Ref.put;rw[List.length_set]
 have o:=h.al.ok;unfold Sp.Ok at o;refine⟨(Class.set x.mem 8 (dG D.A c) a xt).1,Prod.ext rfl k,h.move (x':={ x with mem:=(Class.set x.mem 8 (dG D.A c) a xt).1 }) ⟨⟨o.1,o.2.1,o.2.2.1,by show x.to<=_;rw[l];exact o.2.2.2⟩,h.al.al⟩ n rfl rfl l (Int.le_refl _) (m 0 fun i e=>.inl (by have:=h.QJ e;omega)) (fun b _ _ t=>m b fun i e=>?_) (fun p q _ u j d=>u j (by rw[<- f];exact d)) (fun j d=>?_) (fun j d=>h.tl j (by rw[<- f];exact d))⟩
 . have w:=h.QJ e
   have y:=(h.sl i e).1;rcases t i e with q | q
   . left;omega
   . right;omega
 . rw[f]at d
   have:=Ref.fO D.L c a xt g j d;rw[this.2.1,this.2.2];exact h.sl j d
theorem mark(h:D.In x){w:Wd}{ws:List Wd}(n:D.ws=w :: ws)(f:Int)(f0:0<=f)(f1:f<=255):∃ m':Mem,x.mem.iZ w.cM f=(m',0)/\eF.In { D with ws:={ w with cP:=f } :: ws } { x with mem:=m' }:=by
 have K:=h.chain;rw[n]at K;obtain⟨E,d,F⟩:=K;obtain⟨c,I⟩:∃ c,(x.mem.cell 24).1=c:=⟨_,rfl⟩;rw[I]at E d F;obtain⟨m,s2,s3,s4,s5,s6⟩:=Mem.kO d;obtain⟨M,N,q3,B⟩:=h.iQ w (by rw[n];simp);have t:=h.pw;rw[n]at t;have Y:=h.cu;have af:=h.rH;have ag:=h.xQ;rw[m]at M N B;have ae:(w.name.length:Int)=(x.mem.cell (c+8)).1 % 256/\(x.mem.cell (c+8)).1 % 256<=31:=by
  unfold Mem.Ym at d;simp only at d;split at d
  . cases d
  . rename_i v
    split at d
    . cases d
    . rename_i z
      injection d with d;injection d with d _;have Z:(x.mem.dJ (c+16) ((x.mem.cell (c+8)).1 % 256)).1.length=((x.mem.cell (c+8)).1 % 256).toNat:=by
       have C:(x.mem.dJ (c+16) ((x.mem.cell (c+8)).1 % 256)).2=0:=by
        by_cases e:(x.mem.dJ (c+16) ((x.mem.cell (c+8)).1 % 256)).2=0
        . exact e
        . exact absurd (.inr e) z
       unfold Mem.dJ at C |-;split
       . exact gK _ _
       . rename_i e;rw[if_neg e]at C;cases C
      have ab:w.name=(x.mem.dJ (c+16) ((x.mem.cell (c+8)).1 % 256)).1:=by rw[<- d]
      rw[ab,Z];have:¬ 31<(x.mem.cell (c+8)).1 % 256:=fun e=>v (.inr (.inr (.inl e)));omega
 have aa:x.mem.iZ w.cM f=x.mem.setCell (c+8) (w.name.length+f*256):=by
  unfold Mem.iZ;rw[m,d];exact if_neg (by omega)
 have J:x.mem.cM (c+8)=0:=by rw[Mem.dX];omega
 obtain⟨m',s⟩:∃ m',m'=(x.mem.setCell (c+8) (w.name.length+f*256)).1:=⟨_,rfl⟩;have l:m'.size=x.mem.size:=by rw[s,Mem.cQ]
 have k:∀ b,b≠c+8->m'.cell b=x.mem.cell b:=fun b y=>by rw[s,Mem.dQ _ _ _ _ y]
 have hv:m'.cell (c+8)=(w.name.length+f*256,0):=by rw[s];exact Mem.fe _ _ _ J (by omega) (by omega)
 have hp:Mem.dN ((x.mem.cell (c+8)).1 % 256)<=32/\(x.mem.cell (c+8)).1 % 256<=Mem.dN ((x.mem.cell (c+8)).1 % 256)/\0<=Mem.dN ((x.mem.cell (c+8)).1 % 256):=by unfold Mem.dN;omega
 have ad:m'.Ym c=some ({ w with cP:=f },(x.mem.cell c).1):=by
  have V:m'.cell c=x.mem.cell c:=k c (by omega);have S:((w.name.length:Int)+f*256) % 256=(x.mem.cell (c+8)).1 % 256:=by omega
  have U:((w.name.length:Int)+f*256) / 256=f:=by omega
  have W:m'.dJ (c+16) ((x.mem.cell (c+8)).1 % 256)=x.mem.dJ (c+16) ((x.mem.cell (c+8)).1 % 256):=Mem.qz l (by omega) (by omega) s6 (by omega) fun b Q R=>k b (by omega);have X:(m'.cell (c+16+Mem.dN ((x.mem.cell (c+8)).1 % 256))).2=(x.mem.cell (c+16+Mem.dN ((x.mem.cell (c+8)).1 % 256))).2:=by rw[Mem.jo,Mem.jo,Mem.gj l]
  have g:=d;unfold Mem.Ym at g |-;simp only at g |-;rw[hv,V];simp only;rw[S,U,W,X];split at g
  . cases g
  . rename_i v
    rw[if_neg (by intro e;rcases e with e | e | e | e;exact v (.inl e);exact e rfl;exact v (.inr (.inr (.inl e)));omega)];split at g
    . cases g
    . rename_i z
      rw[if_neg z];injection g with g;injection g with g _;rw[<- g]
 refine⟨m',by rw[aa,s];exact Prod.ext rfl (by show(x.mem.setCell (c+8) _).2=0;rw[Mem.jq,J]),?_⟩;have o:=h.al.ok;unfold Sp.Ok at o;have y:∀ i:Nat,i<D.L.length->c+16<=dG D.T i\/dG D.A i+40<=c:=fun i r=>by
  have:=h.QJ r;rcases B i r with q | q
  . left;omega
  . right;exact q
 refine⟨⟨⟨o.1,o.2.1,o.2.2.1,by show x.to<=(m'.size:Int);rw[l];exact o.2.2.2⟩,h.al.al⟩,h.iE.CE l (fun a H=>k a ?_) (Int.le_refl _) (by show x.cu<=_;omega),h.lo,h.xQ,by show m'.size=_;rw[l];exact h.size,Y,by show m'.cell 0=_;rw[k 0 (by omega)];exact h.zero,?_,?_,?_,?_,?_,?_,h.sl,h.tl⟩
 . rcases H with H | ⟨i,r,a1,a2⟩
   . omega
   . rcases y i r with q | q <;> omega
 . show m'.cell 16=_;rw[k 16 (by omega)];exact h.dD
 . show(m'.cell 24).2=0;rw[k 24 (by omega)];exact h.cF
 . show m'.jG ({ w with cP:=f } :: ws) m'.size (m'.cell 24).1
   rw[k 24 (by omega),I,l];have G:m'.cell c=x.mem.cell c:=k c (by omega);refine⟨E,by rw[ad,G],?_⟩;rw[G];refine F.still l fun u j b Q R=>k b ?_;have:=(List.pairwise_cons.1 t).1 u j;omega
 . intro u j
   rcases List.mem_cons.1 j with rfl | j
   . exact⟨by show 32<=w.cM;rw[m];exact M,by show w.cM<w.xt;rw[m];exact N,by show w.xt+8<=x.cu;exact q3,by show D.off w.cM w.xt;rw[m];exact B⟩
   . exact h.iQ u (by rw[n];simp[j])
 . intro p ac
   obtain⟨r1,r2,r3,r4,O⟩:=h.fx p ac;have P:=O w (by rw[n];simp);rw[m]at P;refine⟨by show m'.cell p.1=_;rw[k p.1 (by omega)];exact r1,r2,r3,r4,fun u j=>?_⟩;rcases List.mem_cons.1 j with rfl | j
   . show p.1+8<=w.cM\/w.xt<=p.1
     rw[m];exact P
   . exact O u (by rw[n];simp[j])
 . exact List.pairwise_cons.2 ⟨fun u j=>by show u.xt<=w.cM;exact(List.pairwise_cons.1 t).1 u j,(List.pairwise_cons.1 t).2⟩
theorem Ir(h:D.In x)(a:x.cu+8<=60000):x.cF=(x.wr [0],x.cu,0):=by
 have e:=Sp.mK h.al.al;unfold Sp.cF;rw[e];simp only;rw[if_neg (by simp),(h.cN 0 (by unfold dB;omega) a).1,if_neg (by simp)]
theorem lN(h:D.In x){c:Nat}(i:c<D.L.length)(G:x.cu+8<=60000):∃ y:Sp,Obj.dV x (dG D.A c)=(y,x.cu,0)/\y.cu=x.cu+8/\eF.In { D with fx:=(x.cu,dG D.A c) :: D.fx } y:=by
 have I:=h.xQ;have u:=h.cu;have H:=h.rH;have g:=h.al.al;have o:=h.al.ok;unfold Sp.Ok at o;have B:=(h.sl c i).2;have F:=h.iE.pos i;have j:=Obj.JC h.iE i (by omega) (by omega);rw[B]at j;obtain⟨d,q,f,r,E,s⟩:=Obj.JB (a:=x.cu) (c:=dG D.A c) j (by decide) (by decide) g (by omega) (by omega) (by unfold dB;omega);have t:Obj.jC x 8=({ x with cu:=x.cu+8 },0):=by
  unfold Obj.jC;rw[Sp.mK g,if_neg (by simp)];unfold Sp.gA;simp only;rw[if_neg (by omega)]
 have e:Obj.dV x (dG D.A c)=(({ x with mem:=d,cu:=x.cu+8 }:Sp),x.cu,0):=by
  unfold Obj.dV;rw[j,if_neg (by simp)];simp only;rw[t,if_neg (by simp),Sp.mK g];simp only;rw[q]
 have k:∀ b,b<x.cu->d.cell b=x.mem.cell b:=by
  intro b l;by_cases p:b % 8=0
  . exact s b (.inl l) p
  . have m:x.mem.cM b≠0:=by rw[Ne,Mem.dX];omega
    have n:d.cM b=x.mem.cM b:=Mem.gj f b;rw[Mem.iM _ _ m,Mem.iM _ _ (by rw[n];exact m),n]
 have v:D.In { x with mem:=d,cu:=x.cu+8 }:=h.move (x':={ x with mem:=d,cu:=x.cu+8 }) ⟨⟨o.1,by show x.lo<=x.cu+8;omega,by show x.cu+8<=x.to;omega,by show x.to<=(d.size:Int);omega⟩,by show(x.cu+8) % 8=0;omega⟩ (h.iE.frame f k (by show x.cu<=x.cu+8;omega) (by show x.cu+8<=_;omega)) rfl rfl f (by show x.cu<=x.cu+8;omega) (k 0 (by omega)) (fun b _ l _=>k b (by omega)) (fun _ _ _ z=>z) h.sl h.tl;exact⟨_,e,rfl,v.ie r u (by show x.cu+8<=x.cu+8;omega) (h.ub _ _ (Int.le_refl _)) (fun w C=>.inr (by have:=h.iQ w C;omega))⟩
end In
end eF
namespace Src
def d'(s:List UInt8):Bool:=!s.isEmpty && s.all fun c=>!blank c
theorem D7{c:UInt8}{s:List UInt8}(h:d' (c :: s)=true):blank c=false:=by
 unfold d' at h;simp at h;simpa using h.1
theorem ch{s t:List UInt8}(h:s.all (fun c=>!blank c)=true)(a:∀ c r,t=c :: r->blank c=true):(s++t).takeWhile (fun c=>!blank c)=s:=by
 induction s with
 | nil =>
  cases t with
  | nil=>rfl
  | cons c r=>rw[List.nil_append,List.takeWhile_cons,a c r rfl];rfl
 | cons c s b =>
  simp only[List.all_cons,Bool.and_eq_true]at h;rw[List.cons_append,List.takeWhile_cons,h.1,b h.2];rfl
theorem qA(b s t:List UInt8)(a:Nat)(h:d' s=true)(e:b.drop a=s++t):skip b a=a:=by
 unfold skip;rw[e];cases s with
 | nil=>cases h
 | cons c s=>rw[List.cons_append,List.takeWhile_cons,D7 h];rfl
theorem vG(b s t:List UInt8)(a:Nat)(e:b.drop a=s++t):b.drop (a+s.length)=t:=by
 rw[<- List.drop_drop,e,List.drop_left]
theorem mZ(b s t:List UInt8)(a:Nat)(h:d' s=true)(e:b.drop a=s++32 :: t):dA b a=(s,a+s.length+1)/\b.drop (a+s.length+1)=t:=by
 have g:=qA b s _ a h e;have f:s.all (fun c=>!blank c)=true:=by unfold d' at h;simp only[Bool.and_eq_true]at h;exact h.2
 have i:(b.drop a).takeWhile (fun c=>!blank c)=s:=by rw[e];exact ch f (fun c r e=>by injection e with e _;subst e;rfl)
 have d:=vG b s _ a e;refine⟨?_,by rw[<- List.drop_drop,d];rfl⟩;unfold dA;simp only;rw[g,i,d,if_pos (show Option.any (fun c=>decide (c.toNat≠10)) ((32:UInt8) :: t).head?=true from rfl)]
theorem xS(b s:List UInt8)(a:Nat)(h:d' s=true)(e:b.drop a=s):dA b a=(s,a+s.length)/\b.drop (a+s.length)=[]:=by
 have d:b.drop a=s++[]:=by rw[e];simp
 have i:=qA b s _ a h d;have g:s.all (fun c=>!blank c)=true:=by unfold d' at h;simp only[Bool.and_eq_true]at h;exact h.2
 have j:(b.drop a).takeWhile (fun c=>!blank c)=s:=by rw[d];exact ch g (fun c r e=>by cases e)
 have f:=vG b s _ a d;refine⟨?_,f⟩;unfold dA;simp only;rw[i,j,f,if_neg (by decide)]
theorem xT(b:List UInt8)(a:Nat)(e:b.drop a=[]):dA b a=([],a):=by
 have d:skip b a=a:=by unfold skip;rw[e];rfl
 have f:(b.drop a).takeWhile (fun c=>!blank c)=[]:=by rw[e];rfl
 unfold dA;simp only;rw[d,f];simp only[List.length_nil,Nat.add_zero];rw[e,if_neg (by decide)]
end Src
theorem xU{c:UInt8}(h:dE.kC c=true):Src.blank c=false:=by
 have:=dE.vf h;unfold Src.blank;simp;omega
theorem mC{s:List UInt8}(h:dE.fa s=true):Src.d' s=true:=by
 unfold dE.fa at h;split at h
 . simp only[Bool.and_eq_true]at h
   unfold Src.d';simp only[Bool.and_eq_true,List.all_cons];refine⟨rfl,by decide,?_⟩;rw[List.all_eq_true];intro c a;rw[xU (List.all_eq_true.1 h.2 c a)];rfl
 . simp only[Bool.and_eq_true]at h
   unfold Src.d';simp only[Bool.and_eq_true];refine⟨h.1,?_⟩;rw[List.all_eq_true];intro c a;rw[xU (List.all_eq_true.1 h.2 c a)];rfl
theorem It{c:UInt8}(h:dE.kC c=true):mw c=c:=by
 have:=dE.vf h;unfold mw;rw[if_neg (by omega)]
theorem mD{s:List UInt8}(h:dE.fa s=true):cG s=s:=by
 have b:∀ t:List UInt8,t.all dE.kC=true->t.map mw=t:=by
  intro t a;induction t with
  | nil=>rfl
  | cons c t d =>
   simp only[List.all_cons,Bool.and_eq_true]at a;rw[List.map_cons,It a.1,d a.2]
 unfold cG;unfold dE.fa at h;split at h
 . simp only[Bool.and_eq_true]at h
   rw[List.map_cons,b _ h.2];rfl
 . simp only[Bool.and_eq_true]at h
   exact b _ h.2
theorem wQ{s:List UInt8}(h:dE.fa s=true):il s=none:=by
 have b:∀ nm:List UInt8,dE.fa nm=false->¬ s=nm:=fun nm a e=>by rw[<- e,h]at a;cases a
 unfold il jj;repeat rw[if_neg (b _ (by decide))]
end Go.Proofs.dS
