/- A part of WalkG. No condition. -/
import Derived.Test.YthhfkhhhclmimaaGreatDoorM18
import Derived.Test.YthhfkhhhclmimaaGreatDoorM13
set_option linter.unusedVariables false
set_option linter.unusedSimpArgs false
open Go.Proofs.Tryz
set_option maxRecDepth 10000
set_option maxHeartbeats 4000000
namespace Go.Proofs.dS
open Go Go.RowKit Go.Proofs.K
def ky:List UInt8->Option Pk:=oi mQ (oi lE (oi mP (oi mR (oi jf (oi oO (oi re (fun _=>none)))))))
def wI(w0 w:World)(b0:Nat)(l:List (Nat × Nat × (List UInt8->Option Pk))):Prop:=∀ p ∈ l,gn w0 w p.1 p.2.1 p.2.2/\p.1≠b0
theorem wI.nil(b w:World)(a:Nat):wI b w a []:=fun p h=>by cases h
theorem wI.ct{c w w':World}{a f:Nat}{e:List UInt8->Option Pk}{l:List (Nat × Nat × (List UInt8->Option Pk))}(h:wI c w a l)(d:gn c w a f e)(k:cq (fun g=>g=a) w w'):wI c w' a l:=fun p b=>⟨(h p b).1.Ro k (h p b).2 d.jt d.ge,(h p b).2⟩
theorem wI.cons{g w w':World}{a o b n:Nat}{i K:List UInt8->Option Pk}{l:List (Nat × Nat × (List UInt8->Option Pk))}(h:wI g w a l)(d:gn g w a o i)(k:K_ g w)(x:gn w w' b n K)(m:K_ w w'):wI g w' a ((b,n,K) :: l):=by
 intro p c;rcases List.mem_cons.1 c with rfl | c
 . refine⟨x.Rn k,fun e=>?_⟩
   have:=x.ge;obtain⟨f,j,_⟩:=d;have:=j.lt;have e:b=a:=e;omega
 . exact⟨(h p c).1.ct m,(h p c).2⟩
theorem gn.kp{a w:World}{b n:Nat}{K:List UInt8->Option Pk}(h:gn a w b n K):K_ a w:=by
 obtain⟨f,d,e,g,c⟩:=h;exact c
theorem wJ(w:World):Calls prog 120 #[] w (kg w 500 ky):=by
 have F:=@run_makeMap prog;have b:=gn.kf w;have c:=wI.nil w (w.alloc (.map #[] 0)) w.heap.size;have x:=Ks;have y:=GY;have A:=yU;have B:=h_ CV;have C:=CT;have v:=Ap;have z:=CU;go_enter func120,ntmps120;go_wp2_with fail;refine(x _).mono ?_;rintro e j ⟨n,rfl,a⟩;replace c:=c.cons b b.kp a a.kp;replace b:=b.ct a.kp;clear a;go_wp2_with fail;refine(y _).mono ?_;rintro e j ⟨o,rfl,a⟩;replace c:=c.cons b b.kp a a.kp;replace b:=b.ct a.kp;clear a;go_wp2_with fail;refine(A _).mono ?_;rintro e j ⟨r,rfl,a⟩;replace c:=c.cons b b.kp a a.kp;replace b:=b.ct a.kp;clear a;go_wp2_with fail;refine(B.out _).mono ?_;rintro e j ⟨s,rfl,a⟩;replace c:=c.cons b b.kp a a.kp;replace b:=b.ct a.kp;clear a;go_wp2_with fail;refine(C _).mono ?_;rintro e j ⟨t,rfl,a⟩;replace c:=c.cons b b.kp a a.kp;replace b:=b.ct a.kp;clear a;go_wp2_with fail;refine(v _).mono ?_;rintro e j ⟨m,rfl,a⟩;replace c:=c.cons b b.kp a a.kp;replace b:=b.ct a.kp;clear a;go_wp2_with fail;refine(z _).mono ?_;rintro e j ⟨q,rfl,a⟩;replace c:=c.cons b b.kp a a.kp;replace b:=b.ct a.kp;clear a;go_wp2_with fail;have h:=cx j (.cells #[.map (some n),.map (some o),.map (some r),.map (some s),.map (some t),.map (some m),.map (some q)] 235);have l:=(show ¬ j.heap.size=w.heap.size by obtain⟨f,D,_⟩:=b;have:=D.lt;omega);replace b:=b.ct (dR j (.cells #[.map (some n),.map (some o),.map (some r),.map (some s),.map (some t),.map (some m),.map (some q)] 235));replace c:=show wI _ _ _ _ from fun p u=>⟨(c p u).1.ct (dR j (.cells #[.map (some n),.map (some o),.map (some r),.map (some s),.map (some t),.map (some m),.map (some q)] 235)),(c p u).2⟩;generalize E:j.heap.size=g at h l |-;generalize j.alloc (.cells #[.map (some n),.map (some o),.map (some r),.map (some s),.map (some t),.map (some m),.map (some q)] 235)=G at h b c |-;clear E;refine wp_loop_rounds 8 ?_;rw[rounds_succ];have k:=cp (i:=0) h rfl;go_wp2_with fail;clear k;refine(jN w _ _ _ _ _ _ _ b (c (n,12,re) (by simp)).1 (fun e=>(c (n,12,re) (by simp)).2 e.symm) (by dsimp only;decide)).mono ?_;rintro e j ⟨rfl,a,d⟩;replace c:=c.ct b d;replace h:=d.heap h l;replace b:=a;clear a d;go_wp2_with fail;rw[rounds_succ];have k:=cp (i:=1) h rfl;go_wp2_with fail;clear k;refine(jN w _ _ _ _ _ _ _ b (c (o,13,oO) (by simp)).1 (fun e=>(c (o,13,oO) (by simp)).2 e.symm) (by dsimp only;decide)).mono ?_;rintro e j ⟨rfl,a,d⟩;replace c:=c.ct b d;replace h:=d.heap h l;replace b:=a;clear a d;go_wp2_with fail;rw[rounds_succ];have k:=cp (i:=2) h rfl;go_wp2_with fail;clear k;refine(jN w _ _ _ _ _ _ _ b (c (r,86,jf) (by simp)).1 (fun e=>(c (r,86,jf) (by simp)).2 e.symm) (by dsimp only;decide)).mono ?_;rintro e j ⟨rfl,a,d⟩;replace c:=c.ct b d;replace h:=d.heap h l;replace b:=a;clear a d;go_wp2_with fail;rw[rounds_succ];have k:=cp (i:=3) h rfl;go_wp2_with fail;clear k;refine(jN w _ _ _ _ _ _ _ b (c (s,13,mR) (by simp)).1 (fun e=>(c (s,13,mR) (by simp)).2 e.symm) (by dsimp only;decide)).mono ?_;rintro e j ⟨rfl,a,d⟩;replace c:=c.ct b d;replace h:=d.heap h l;replace b:=a;clear a d;go_wp2_with fail;rw[rounds_succ];have k:=cp (i:=4) h rfl;go_wp2_with fail;clear k;refine(jN w _ _ _ _ _ _ _ b (c (t,7,mP) (by simp)).1 (fun e=>(c (t,7,mP) (by simp)).2 e.symm) (by dsimp only;decide)).mono ?_;rintro e j ⟨rfl,a,d⟩;replace c:=c.ct b d;replace h:=d.heap h l;replace b:=a;clear a d;go_wp2_with fail;rw[rounds_succ];have k:=cp (i:=5) h rfl;go_wp2_with fail;clear k;refine(jN w _ _ _ _ _ _ _ b (c (m,4,lE) (by simp)).1 (fun e=>(c (m,4,lE) (by simp)).2 e.symm) (by dsimp only;decide)).mono ?_;rintro e j ⟨rfl,a,d⟩;replace c:=c.ct b d;replace h:=d.heap h l;replace b:=a;clear a d;go_wp2_with fail;rw[rounds_succ];have k:=cp (i:=6) h rfl;go_wp2_with fail;clear k;refine(jN w _ _ _ _ _ _ _ b (c (q,7,mQ) (by simp)).1 (fun e=>(c (q,7,mQ) (by simp)).2 e.symm) (by dsimp only;decide)).mono ?_
 rintro e j ⟨rfl,a,d⟩;replace c:=c.ct b d;replace h:=d.heap h l;replace b:=a;clear a d;go_wp2_with fail;rw[rounds_succ];go_wp2;go_ret;exact⟨_,rfl,b.mono (by decide)⟩
open Go Go.RowKit Go.Proofs.K Go.Proofs.tI Go.Proofs.Ay
theorem sy(v:List UInt8)(l:List (List UInt8))(h:v ∈ l):∃ h:ft v l<l.length,l[ft v l]=v:=by
 induction l with
 | nil=>cases h
 | cons x l c =>
  by_cases e:v=x
  . have a:ft v (x :: l)=0:=by rw[ft,if_pos e]
    exact⟨by rw[a];simp,by simp only[a];simp[e]⟩
  . obtain⟨d,b⟩:=c (by rcases List.mem_cons.1 h with h | h;exact absurd h e;exact h)
    have a:ft v (x :: l)=ft v l+1:=by rw[ft,if_neg e]
    exact⟨by rw[a];simp;omega,by simp only[a];simpa using b⟩
theorem OS{s t:List UInt8}(e:s ∈ names)(f:t ∈ names)(h:num s=num t):s=t:=by
 obtain⟨c,a⟩:=sy s names e;obtain⟨d,b⟩:=sy t names f;unfold num yJ at h;rw[if_pos c,if_pos d]at h;have:ft s names=ft t names:=by omega
 rw[<- a,<- b];congr 1
def oz(K:List UInt8->Option Pk):Prop:=∀ s,K s≠none->s ∈ names
theorem oz.none:oz (fun _=>none):=fun _ h=>absurd rfl h
theorem oz.put{K:List UInt8->Option Pk}(h:oz K){x:List UInt8}(b:x ∈ names)(c:Pk):oz (Yn K x c):=by
 intro s a;unfold Yn at a;by_cases e:s=x
 . rw[e];exact b
 . rw[if_neg e]at a;exact h s a
theorem oz.dL{c a:List UInt8->Option Pk}(f:oz a)(d:oz c):oz (oi a c):=by
 intro s b;unfold oi at b;cases e:a s with
 | none=>rw[e]at b;exact d s b
 | some k=>exact f s (by rw[e];simp)
theorem oz.add{K:List UInt8->Option Pk}(h:oz K){x:List UInt8}(a:x ∈ names):oz (pO K x):=by
 unfold pO;split
 . exact h.put a _
 . split
   . exact h.put a _
   . exact h
theorem oz.UP{K:List UInt8->Option Pk}(h:oz K)(l:List (List UInt8))(a:∀ x ∈ l,x ∈ names):oz (l.foldl pO K):=by
 induction l generalizing K with
 | nil=>exact h
 | cons x l c=>exact c (h.add (a x (by simp))) (fun y b=>a y (by simp[b]))
theorem tX:oz ky:=by
 unfold ky;refine oz.dL ?_ (oz.dL ?_ (oz.dL ?_ (oz.dL ?_ (oz.dL ?_ (oz.dL ?_ (oz.dL ?_ oz.none))))))
 . unfold mQ;repeat (first | exact oz.none | refine oz.put ?_ (by decide +kernel) _)
 . unfold lE;repeat (first | exact oz.none | refine oz.put ?_ (by decide +kernel) _)
 . unfold mP;repeat (first | exact oz.none | refine oz.put ?_ (by decide +kernel) _)
 . unfold mR;repeat (first | exact oz.none | refine oz.put ?_ (by decide +kernel) _)
 . exact oz.none.UP _ (fun _ h=>h)
 . unfold oO;repeat (first | exact oz.none | refine oz.put ?_ (by decide +kernel) _)
 . unfold re;repeat (first | exact oz.none | refine oz.put ?_ (by decide +kernel) _)
theorem La:Go.Maps.Keyed prog 2:=Go.Maps.int_keyed underlying2
theorem Lb(n:Int)(a:(Lit.int .i64 n).wf=true):keyOf Tryz.prog 2 (.int .i64 n)=some (.int .i64 n):=(Kp Tryz.underlying2).reads n a
theorem Rp(v:Value)(a:Lit)(h:keyOf Tryz.prog 2 v=some a):∃ n:Int,(Lit.int .i64 n).wf=true/\v=.int .i64 n/\a=.int .i64 n:=(Kp Tryz.underlying2).inv v a h
def ik:oN Tryz.prog 2 Int where
 val n:=.int .i64 n
 lit n:=.int .i64 n
 ok n:=(Lit.int .i64 n).wf=true
 kd:=La
 reads:=Lb
 inv:=Rp
 inj x y h:=by injection h
 NW x:=trivial
def Does(X:Nat->Prop)(w:World)(pb:Nat):Prop:=∃ n g,n<=500/\cX ik w pb n g/\(∀ s kd,ky s=some kd->∃ v,g (num s)=some v/\Good X w kd v)/\∀ k,(∀ s,(ky s).isSome=true->num s≠k)->g k=none
theorem Does.ct{X S:Nat->Prop}{w w':World}{a:Nat}(h:Does X w a)(k:cq S w w')(b:¬ S a)(q:∀ g,X g->¬ S g):Does X w' a:=by
 obtain⟨n,g,o,c,d,j⟩:=h;refine⟨n,g,o,c.ct k b,fun s r p=>?_,j⟩;obtain⟨v,e,i⟩:=d s r p;exact⟨v,e,i.ct (fun g u t f m l=>k.heap l (q g m))⟩
open Go.RowKit Go.Proofs.tI
structure VM where
 x:Sp
 d:dK
 r:dK
 qa:Int
 tf:Int
 ip:Int
 dU:Int
 root:Int
 cF:Int
 cy:Int
 cI:Int
 out:List UInt8
 mT:List UInt8
 dL:Bool
 dD:Int
 cV:Int
 cC:Int
 deriving DecidableEq
namespace Ay
def ru(b:Bool):Int:=if b then -1 else 0
def Lc(a b:Int):Int × Int :=
 if b = -1 then(wrap64 (-a),0)else
 if a.tmod b≠0/\(a.tmod b<0)≠(b<0)then(a.tdiv b-1,a.tmod b+b)else(a.tdiv b,a.tmod b)
def Ld(n:Int):Nat:=min (n % 18446744073709551616).toNat 64
def OT(op:List UInt8)(a b:Int):Int :=
 if op=[97,110,100] then Go.bits .and .i64 a b
 else if op=[111,114] then Go.bits .or .i64 a b
 else if op=[120,111,114] then Go.bits .xor .i64 a b
 else if op=[108,115,104,105,102,116] then wrap64 ((a % 18446744073709551616)*2 ^ Ld b)
 else if op=[114,115,104,105,102,116] then wrap64 ((a % 18446744073709551616) / 2 ^ Ld b)
 else if op=[61] then ru (decide (a=b))
 else if op=[60,62] then ru (decide (a≠b))
 else if op=[60] then ru (decide (a<b))
 else if op=[62] then ru (decide (b<a))
 else if op=[117,60] then ru (decide (a % 18446744073709551616<b % 18446744073709551616))
 else if op=[109,105,110] then min a b
 else max a b
def two(op:List UInt8)(a b:Int):Int × Int :=
 if op=[43] then(wrap64 (a+b),0)
 else if op=[45] then(wrap64 (a-b),0)
 else if op=[42] then(wrap64 (a*b),0)
 else if op=[47] then(if b=0 then(0,-10)else((Lc a b).1,0))
 else if op=[109,111,100] then(if b=0 then(0,-10)else((Lc a b).2,0))
 else(OT op a b,0)
def pU(op:List UInt8)(a:Int):Int :=
 if op=[110,101,103,97,116,101] then wrap64 (-a)
 else if op=[105,110,118,101,114,116] then -a-1
 else if op=[97,98,115] then max a (wrap64 (-a))
 else if op=[48,61] then ru (decide (a=0))
 else if op=[48,60] then ru (decide (a<0))
 else if op=[49,43]\/op=[99,104,97,114,43] then wrap64 (a+1)
 else if op=[49,45] then wrap64 (a-1)
 else if op=[50,42] then wrap64 (a*2)
 else if op=[50,47] then a / 2
 else if op=[99,101,108,108,115] then wrap64 (a*8)
 else if op=[99,101,108,108,43] then wrap64 (a+8)
 else Go.bits .andNot .i64 (wrap64 (a+7)) 7
end Ay
namespace Heap
def C8(m:Mem)(lo hi a n:Int):Mem × Int × Int :=
 match blocks m lo hi with
 | none=>(m,0,-2052)
 | some l =>
  if find l a<0 then(m,0,-60)else
  let old:=(l.getD (find l a).toNat ⟨0,0,false⟩).size-8
  if 0<=n/\n<=old then(m,a,0)else
  let q:=alloc m lo hi n
  if q.2.2≠0 then(q.1,0,-61)else
  let m2:=(q.1.cS q.2.1 (q.1.dJ a old).1).1
  ((er m2 lo hi a).1,q.2.1,(er m2 lo hi a).2)
end Heap
namespace VM
def cell(v:VM)(a:Int):Int × Int:=v.x.mem.cell a
def mem(v:VM)(m:Mem):VM:={ v with x:={ v.x with mem:=m } }
def push(v:VM)(l:List Int):VM × Int:=({ v.mem (dK.push v.x.mem v.d l).1 with d:=(dK.push v.x.mem v.d l).2.1 },(dK.push v.x.mem v.d l).2.2)
def fX(v:VM)(l:List Int):VM × Int:=({ v.mem (dK.push v.x.mem v.r l).1 with r:=(dK.push v.x.mem v.r l).2.1 },(dK.push v.x.mem v.r l).2.2)
def qI(v:VM):VM × Int × Int:=({ v with d:=(dK.qI v.x.mem v.d).1 },(dK.qI v.x.mem v.d).2)
def jO(v:VM):VM × Int × Int:=({ v with r:=(dK.qI v.x.mem v.r).1 },(dK.qI v.x.mem v.r).2)
def dw(v:VM)(n:Int):VM × Int:=({ v with r:=(dK.drop v.r n).1 },(dK.drop v.r n).2)
def fE(v:VM)(n:Int):VM × Int:=({ v with d:=(dK.drop v.d n).1 },(dK.drop v.d n).2)
def fB(v:VM)(q:Sp × Int):VM × Int:=({ v with x:=q.1 },q.2)
def setCell(v:VM)(a n:Int):VM × Int:=(v.mem (v.x.mem.setCell a n).1,(v.x.mem.setCell a n).2)
def Yo(v:VM)(a n:Int):VM × Int:=(v.mem (v.x.mem.Yo a n).1,(v.x.mem.Yo a n).2)
def put(v:VM)(t:List UInt8):VM:={ v with out:=v.out++t.take (65536-v.out.length) }
def oj(v:VM):Int:=(v.cell v.dD).1
def inline(v:VM):VM × Int × Int:=({ v with ip:=wrap64 (v.ip+8) },v.cell v.ip)
def fA(v:VM)(xt:Int):VM × Int:=if(v.fX [v.ip]).2≠0 then v.fX [v.ip] else({ (v.fX [v.ip]).1 with ip:=xt+8 },0)
def method(v:VM)(xt o:Int):VM × Int :=
 if(v.cell xt).2≠0\/(v.cell xt).1≠1004 then(v,-14)
 else if(v.fX [v.dU,v.ip]).2≠0 then v.fX [v.dU,v.ip]
 else({ (v.fX [v.dU,v.ip]).1 with dU:=o,ip:=xt+8 },0)
def send(v:VM)(a cZ:Int):VM × Int:=if(Obj.send v.x.mem v.root a cZ).2.2≠0 then(v,(Obj.send v.x.mem v.root a cZ).2.2)else v.method (Obj.send v.x.mem v.root a cZ).1 a
def eX(n:Int):Int:=if n<0\/1048576<n then 0 else n
def fo(m:Mem)(d:dK)(n:Nat):List Int:=(List.range n).map fun (i:Nat)=>(dK.cM m d ((n:Int)-1-i)).1
def iF(n:Nat)(f:VM->List Int->VM × Int)(v:VM):VM × Int:=if v.d.depth<n then(v,-4)else f { v with d:={ v.d with depth:=v.d.depth-n } } (fo v.x.mem v.d n)
def oT(f:VM->VM × Int × Int)(v:VM):VM × Int:=if(f v).2.2≠0 then((f v).1,(f v).2.2)else(f v).1.push [(f v).2.1]
def nH(f:VM->Int->Int × Int)(v:VM)(l:List Int):VM × Int:=if(f v (l.getD 0 0)).2≠0 then(v,(f v (l.getD 0 0)).2)else v.push [(f v (l.getD 0 0)).1]
def OU(ps:List Int)(v:VM)(l:List Int):VM × Int:=v.push (ps.map fun p=>l.getD p.toNat 0)
def Le(v:VM):VM × Int:=if v.r.depth<2 then(v,-6)else v.dw (v.r.depth-2)
def OV(x y n:Int):Bool:=decide (Go.bits .and .i64 (Go.bits .xor .i64 x y) (Go.bits .xor .i64 x n)<0)
def loop(v:VM)(n:Int):VM × Int :=
 let q:=v.inline
 if q.2.2≠0 then(q.1,q.2.2)else
 let l:=dK.cM q.1.x.mem q.1.r 1
 if l.2≠0 then(q.1,l.2)else
 let i:=q.1.jO
 let x:=wrap64 (i.2.1-l.1)
 if OV x (wrap64 (x+n)) n then((i.1.jO).1,0)
 else { i.1 with ip:=q.2.1 }.fX [wrap64 (i.2.1+n)]
def oU(v:VM)(t:List UInt8):VM × Int:=if t=[] then(v,-40)else(v.put (t++[32]),0)
def me(v:VM):VM × Int :=
 if v.r.depth<4 then(v,-6)else
 let l:=fo v.x.mem v.r 4
 let u:=(v.dw (v.r.depth-4)).1
 { u with ip:=l.getD 0 0,dU:=l.getD 1 0,cC:=eX (l.getD 3 0) }.push [0]
def throw(v:VM)(e:Int):VM × Bool :=
 if v.cC<4\/e = -2053 then(v,false)else
 if(v.dw v.cC).2≠0 then(v,false)else
 let u:=(v.dw v.cC).1
 let l:=fo u.x.mem u.r 4
 let t:={ (u.dw (v.cC-4)).1 with ip:=l.getD 0 0,dU:=l.getD 1 0,cC:=eX (l.getD 3 0) }
 if l.getD 2 0<0\/1048576<l.getD 2 0 then(t,false)else
 if(t.fE (l.getD 2 0)).2≠0 then((t.fE (l.getD 2 0)).1,false)else
 (((t.fE (l.getD 2 0)).1.push [e]).1,decide (((t.fE (l.getD 2 0)).1.push [e]).2=0))
def ez(q:VM × Int):VM × Int:=if q.2=0 then q else((throw q.1 q.2).1,if(throw q.1 q.2).2 then 0 else q.2)
def Tk(n:Int):Int:=n % 18446744073709551616
def jk(f:VM->Int->VM × Int)(v:VM)(l:List Int):VM × Int:=f v (l.getD 0 0)
def Hl(f:VM->Int->Int->VM × Int)(v:VM)(l:List Int):VM × Int:=f v (l.getD 0 0) (l.getD 1 0)
def tg(f:List UInt8->Int->Int->Int × Int)(op:List UInt8)(v:VM)(l:List Int):VM × Int:=if(f op (l.getD 0 0) (l.getD 1 0)).2≠0 then(v,(f op (l.getD 0 0) (l.getD 1 0)).2)else v.push [(f op (l.getD 0 0) (l.getD 1 0)).1]
def Lf(v:VM)(q:Mem × Int × Int)(a:Int):VM × Int:=(v.mem q.1).push [a,q.2.2]
def Hm(v:VM)(c:Int):VM × Int :=
 if Class.is v.x.mem v.root c=false then(v,-2048)else
 let q:=Obj.heap v.x.mem v.qa v.tf c
 if q.2.2≠0 then(v.mem q.1,q.2.2)else(v.mem q.1).push [q.2.1]
def OW(en:VM->Int->VM × Int)(f:Nat):VM->List Int->VM × Int :=
 if f=300 then jk fun v n=>let q:=v.inline;(if q.2.2=0/\n=0 then { q.1 with ip:=q.2.1 } else q.1,q.2.2)
 else if f=301 then fun v l=>v.fX l
 else if f=304 then jk fun v n=>v.loop n
 else if f=309 then jk en
 else if f=313 then jk fun v n=>if n=0 then v.push [0] else v.push [n,n]
 else if f=314 then jk fun v n=>if n<0\/v.d.depth<=n then(v,-4)else v.push [(dK.cM v.x.mem v.d n).1]
 else if f=316 then jk fun v n=>v.fX [n]
 else if f=327 then Hl fun v n a=>v.setCell a n
 else if f=328 then Hl fun v n a=>v.Yo a n
 else if f=330 then Hl fun v n a=>if(v.cell a).2≠0 then(v,(v.cell a).2)else v.setCell a (wrap64 ((v.cell a).1+n))
 else if f=332 then jk fun v n=>v.fB (v.x.gA n)
 else if f=333 then jk fun v n=>v.fB (v.x.cN n)
 else if f=334 then jk fun v n=>v.fB (v.x.char n)
 else if f=336 then jk fun v n=>v.Lf (Heap.alloc v.x.mem v.qa v.tf n) (Heap.alloc v.x.mem v.qa v.tf n).2.1
 else if f=338 then jk fun v n=>(v.mem (Heap.er v.x.mem v.qa v.tf n).1).push [(Heap.er v.x.mem v.qa v.tf n).2]
 else if f=340 then Hl fun v a n=>v.Lf (Heap.C8 v.x.mem v.qa v.tf a n) (if(Heap.C8 v.x.mem v.qa v.tf a n).2.2≠0 then a else(Heap.C8 v.x.mem v.qa v.tf a n).2.1)
 else if f=342 then jk fun v n=>(v.put [UInt8.ofNat (n % 256).toNat],0)
 else if f=345 then Hl fun v a n=>(v.put (v.x.mem.dJ a n).1,(v.x.mem.dJ a n).2)
 else if f=346 then jk fun v n=>v.oU (dE.gC n v.oj)
 else if f=348 then jk fun v n=>v.oU (dE.fq (Tk n) v.oj)
 else if f=350 then jk fun v n =>
  if(v.fX [v.ip,v.dU,v.d.depth,v.cC]).2≠0 then v.fX [v.ip,v.dU,v.d.depth,v.cC]
  else let u:=(v.fX [v.ip,v.dU,v.d.depth,v.cC]).1;en { u with cC:=u.r.depth,ip:=u.cV } n
 else if f=353 then jk fun v n=>(v,n)
 else if f=356 then jk Hm
 else if f=358 then jk fun v a=>if(Obj.j7 v.x.mem v.root a).2≠0 then(v,(Obj.j7 v.x.mem v.root a).2)else v.push [(Obj.j7 v.x.mem v.root a).1]
 else if f=360 then jk fun v a=>let q:=v.inline;if q.2.2≠0 then(q.1,q.2.2)else q.1.send a q.2.1
 else if f=362 then jk fun v a=>let q:=v.inline;if q.2.2≠0 then(q.1,q.2.2)else q.1.method q.2.1 a
 else fun v _=>(v,-14)
def Ho(f:Nat):VM->VM × Int × Int :=
 if f=297 then inline
 else if f=305 then fun v=>(v,dK.cM v.x.mem v.r 0)
 else if f=306 then fun v=>(v,dK.cM v.x.mem v.r 2)
 else if f=315 then fun v=>(v,v.d.depth,0)
 else if f=317 then jO
 else if f=318 then fun v=>(v,dK.cM v.x.mem v.r 0)
 else if f=331 then fun v=>(v,v.x.cu,0)
 else if f=349 then fun v=>match v.mT with | []=>(v,-1,0) | c :: r=>({ v with mT:=r },c.toNat,0)
 else fun v=>(v,v.dU,0)
def uZ(f:Nat):VM->VM × Int :=
 if f=295 then fun v=>let q:=v.jO;({ q.1 with ip:=q.2.1 },q.2.2)
 else if f=298 then fun v=>let q:=v.inline;({ q.1 with ip:=q.2.1 },q.2.2)
 else if f=302 then fun v=>v.loop 1
 else if f=307 then Le
 else if f=311 then fun v=>({ v with dL:=true },0)
 else if f=335 then fun v=>v.fB v.x.align
 else if f=343 then fun v=>(v.put [10],0)
 else if f=344 then fun v=>(v.put [32],0)
 else if f=351 then me
 else if f=354 then fun v=>(v,-1)
 else if f=364 then fun v =>
  let q:=v.inline
  if q.2.2≠0 then(q.1,q.2.2)else
  let p:=q.1.inline
  if p.2.2≠0 then(p.1,p.2.2)else
  let y:=Class.lookup p.1.x.mem q.2.1 p.2.1
  if y.2.2=false then(p.1,-2049)else p.1.method y.1.xt p.1.dU
 else fun v=>if v.r.depth<2 then(v,-6)else
  let q:=v.jO
  let p:={ q.1 with ip:=q.2.1 }.jO
  ({ p.1 with dU:=p.2.1 },0)
def Lg(f:Nat):VM->Int->Int × Int:=if f=324 then fun v a=>v.x.mem.cell a else fun v a=>v.x.mem.Q0 a
def Fb(en:VM->Int->VM × Int):Pk->VM->VM × Int
 | .plain f=>uZ f
 | .with_ n f=>iF n.toNat (OW en f)
 | .push f=>oT (Ho f)
 | .moves n l=>iF n.toNat (OU l)
 | .look f=>iF 1 (nH (Lg f))
 | .two op=>iF 2 (tg Ay.two op)
 | .one op=>iF 1 (tg (fun op a _=>(Ay.pU op a,0)) op)
def Rr(en:VM->Int->VM × Int)(v:VM)(xt:Int):VM × Int :=
 let c:=v.cell xt
 if c.2≠0 then(v,c.2)else
 if c.1=1001 then v.fA xt else
 if c.1=1002 then v.push [xt+8] else
 if c.1=1003\/c.1=1005 then
  (if(v.cell (xt+8)).2≠0 then(v,(v.cell (xt+8)).2)else v.push [if c.1=1005 then wrap64 ((v.cell (xt+8)).1+v.dU)else(v.cell (xt+8)).1])else
 match ky (fc c.1)with
 | some pk=>Fb en pk v
 | none=>(v,-14)
def Lh:Nat->VM->Int->VM × Int
 | 0=>fun v _=>(v,-14)
 | k+1=>Rr (Lh k)
def enter(v:VM)(xt:Int):VM × Int:=Lh (v.d.depth.toNat+1) v xt
def step(v:VM)(xt:Int):VM × Int:=if v.cI<=0 then(v,-2053)else ez (enter { v with cI:=v.cI-1 } xt)
def Rt(v:VM)(e:Int):VM × Int:=if v.cI<=0 then(v,-2053)else ez ({ v with cI:=v.cI-1 },e)
def round(v:VM):VM × Int:=if v.inline.2.2=0 then v.inline.1.step v.inline.2.1 else v.inline.1.Rt v.inline.2.2
def runN:Nat->VM × Int->VM × Int
 | 0,q=>q
 | k+1,q=>if q.2=0/\q.1.ip≠0/\q.1.dL=false then runN k q.1.round else q
def run(v:VM)(xt:Int):VM × Int:=let q:={ v with ip:=0,dU:=0,cC:=0 }.step xt;runN (q.1.cI.toNat+2) q
end VM
namespace dK
theorem Tl(m:Mem)(d:dK)(i:Int)(a:0<=d.ew)(b:d.ew % 8=0)(e:d.ew+d.gm*8<=m.size)(c:d.depth<=d.gm)(f:0<=i)(g:i<d.depth):(cM m d i).2=0:=by
 unfold cM;rw[if_neg (by omega),if_neg (by omega)];unfold Mem.cell;rw[if_pos];rw[Mem.dX];unfold ft;omega
theorem Ru(m:Mem)(d:dK)(i:Int)(a:0<=d.ew)(b:d.ew % 8=0)(f:d.ew+d.gm*8<=m.size)(c:d.depth<=d.gm)(g:0<=i)(j:i<d.depth) :
 qI m { d with depth:=d.depth-i }=({ d with depth:=d.depth-i-1 },(cM m d i).1,0):=by
 have e:cM m { d with depth:=d.depth-i } 0=cM m d i:=by
  unfold cM ft;rw[if_neg (by omega),if_neg (by show ¬ d.depth-i<=0;omega),if_neg (by omega),if_neg (by omega)];congr 1;show d.ew+(d.depth-i-1-0)*8=d.ew+(d.depth-1-i)*8;omega
 have h:=Tl m d i a b f c g j;unfold qI;rw[e,if_pos h];rw[<- h]
end dK
namespace VM
theorem ry(m:Mem)(d:dK)(n:Nat):(fo m d n).length=n:=by unfold fo;simp
theorem Ll(m:Mem)(d:dK)(n i:Nat)(h:i<(fo m d n).length):(fo m d n)[i]=(dK.cM m d ((n:Int)-1-i)).1:=by simp[fo]
def part(L:List Int)(i:Nat):List Int:=(List.range L.length).map fun j=>if L.length-i<=j then L.getD j 0 else 0
theorem mU(L:List Int)(i:Nat):(part L i).length=L.length:=by unfold part;simp
theorem rz(L:List Int)(i j:Nat)(h:j<(part L i).length):(part L i)[j]=if L.length-i<=j then L.getD j 0 else 0:=by simp[part]
theorem Hq(L:List Int):part L 0=List.replicate L.length 0:=by
 apply List.ext_getElem
 . simp[mU]
 . intro j a b
   rw[rz,List.getElem_replicate];rw[mU]at a;rw[if_neg (by omega)]
theorem Lm(L:List Int):part L L.length=L:=by
 apply List.ext_getElem
 . simp[mU]
 . intro j b a
   rw[rz,if_pos (by omega)];simp[List.getD,a]
theorem Hr(L:List Int)(i:Nat)(h:i<L.length):(part L i).set (L.length-1-i) (L.getD (L.length-1-i) 0)=part L (i+1):=by
 apply List.ext_getElem
 . simp[mU]
 . intro j c b
   rw[List.getElem_set,rz,rz];rw[mU]at b;by_cases e:L.length-1-i=j
   . rw[if_pos e,if_pos (by omega),e]
   . rw[if_neg e]
     by_cases a:L.length-i<=j
     . rw[if_pos a,if_pos (by omega)]
     . rw[if_neg a,if_neg (by omega)]
end VM
end Go.Proofs.dS
namespace Go.Proofs.Ay
open Go Go.RowKit Go.Proofs.K Go.Proofs.dS Go.Proofs.dS.Ay
def In(a:Int):Prop := -9223372036854775808<=a/\a<=9223372036854775807
def OX(v:List UInt8)(a:Int)(w:World)(e:Ending)(w':World):Prop:=e=.returned (.tuple #[I_ (pU v a),.bool true])/\w=w'
theorem OY(a:Int)(w:World)(b:In a):Calls prog 321 #[.string ⟨#[49,43]⟩,I_ a] w (OX [49,43] a w):=by
 unfold In at b;go_enter func321,ntmps321;go_wp2_with (first | (refine eD (uY _ _) ?_));all_goals
  go_ret2;refine⟨congrArg (fun n=>Ending.returned (.tuple #[I_ n,.bool true])) ?_,rfl⟩
 all_goals first | rfl | (simp[pU,ru, *];done) | (simp[pU,ru, *];omega)
end Go.Proofs.Ay
namespace Go.Proofs.dS
open Go.RowKit Go.Proofs.tI
namespace VM
def FP(g:VM->VM × Int):Prop:=∀ v,(g v).1.cI=v.cI
def FL(g:VM->List Int->VM × Int):Prop:=∀ v l,(g v l).1.cI=v.cI
def FG(g:VM->VM × Int × Int):Prop:=∀ v,(g v).1.cI=v.cI
theorem FP.ite{c:Prop}[Decidable c]{a b:VM->VM × Int}(ha:FP a)(hb:FP b):FP (if c then a else b):=by split;exact ha;exact hb
theorem FL.ite{c:Prop}[Decidable c]{a b:VM->List Int->VM × Int}(ha:FL a)(hb:FL b):FL (if c then a else b):=by split;exact ha;exact hb
theorem FG.ite{c:Prop}[Decidable c]{a b:VM->VM × Int × Int}(ha:FG a)(hb:FG b):FG (if c then a else b):=by split;exact ha;exact hb
theorem oV(v:VM)(xt o:Int):(v.method xt o).1.cI=v.cI:=by unfold method;(repeat' split);all_goals rfl
theorem om(v:VM)(xt:Int):(v.fA xt).1.cI=v.cI:=by unfold fA;(repeat' split);all_goals rfl
theorem Hp(v:VM)(a b:Int):(v.send a b).1.cI=v.cI:=by
 unfold send;split
 . rfl
 . exact oV _ _ _
theorem xx(v:VM)(n:Int):(v.loop n).1.cI=v.cI:=by unfold loop;simp only[];(repeat' split);all_goals rfl
theorem C9(v:VM)(t:List UInt8):(v.oU t).1.cI=v.cI:=by unfold oU;split;all_goals rfl
theorem AD(v:VM):v.me.1.cI=v.cI:=by unfold me;simp only[];split;all_goals rfl
theorem Li(v:VM)(c:Int):(v.Hm c).1.cI=v.cI:=by unfold Hm;simp only[];(repeat' split);all_goals rfl
theorem Lj(a:VM->Int->VM × Int)(b:∀ (v:VM) xt,(a v xt).1.cI=v.cI)(f:Nat):FL (OW a f):=by
 unfold OW
 repeat' apply FL.ite
 all_goals
  intro v l
  first
  | rfl
  | exact xx _ _
  | exact C9 _ _
  | exact Li _ _
  | exact b _ _
  | (unfold jk;dsimp only;(repeat' split);all_goals first | rfl | exact b _ _ | exact Hp _ _ _ | exact oV _ _ _)
  | (unfold Hl;dsimp only;(repeat' split);all_goals rfl)
theorem xy(f:Nat):FG (Ho f):=by
 unfold Ho
 repeat' apply FG.ite
 all_goals
  intro v
  first
  | rfl
  | (dsimp only;split <;> rfl)
theorem AE(f:Nat):FP (uZ f):=by
 unfold uZ
 repeat' apply FP.ite
 all_goals
  intro v
  first
  | rfl
  | exact xx _ _
  | exact AD _
  | (unfold Le;split <;> rfl)
  | (dsimp only;(repeat' split);all_goals first | rfl | exact oV _ _ _)
theorem Yr(n:Nat)(f:VM->List Int->VM × Int)(h:FL f):FP (iF n f):=by
 intro v;unfold iF;split
 . rfl
 . rw[h]
theorem Yu(a:VM->Int->VM × Int)(c:∀ v xt,(a v xt).1.cI=v.cI)(b:Pk):FP (Fb a b):=by
 cases b with
 | plain f=>exact AE f
 | with_ n f=>exact Yr _ _ (Lj a c f)
 | push f =>
  intro v;show(oT (Ho f) v).1.cI=v.cI;unfold oT;split
  . exact xy f v
  . exact xy f v
 | moves n l=>exact Yr _ _ (fun v l=>rfl)
 | look f=>exact Yr _ _ (fun v l=>by unfold nH;split <;> rfl)
 | two d=>exact Yr _ _ (fun v l=>by unfold tg;split <;> rfl)
 | one d=>exact Yr _ _ (fun v l=>by unfold tg;split <;> rfl)
end VM
end Go.Proofs.dS
