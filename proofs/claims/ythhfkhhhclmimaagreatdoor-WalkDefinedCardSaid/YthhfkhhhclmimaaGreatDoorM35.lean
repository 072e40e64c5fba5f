/- A part of WalkG. No condition. -/
import Derived.Test.YthhfkhhhclmimaaGreatDoorM34
set_option linter.unusedVariables false
set_option linter.unusedSimpArgs false
open Go.Proofs.Tryz
set_option maxRecDepth 10000
set_option maxHeartbeats 4000000
namespace Go.Proofs.dS
open Go Go.RowKit Go.Proofs.K Go.Proofs.tI
theorem Ps(w:World):(zeroValue 237).run prog w=.ok .nilFunc w:=by kernel_rfl
open Go Go.RowKit Go.Proofs.K
structure Oc where
 U':Nat
 src:Nat
 eE:Value
 dy:Value
 comp:Bool
 eM:Bool
 eC:Wd
 ea:Wd
 cu:Int
 cF:Int
 is:Bool
 qT:Nat
 ie:Nat
 reset:Value
def Oc.cells(o:Oc):Array Value:=#[cD o.U',cD o.src,o.eE,o.dy,.bool o.comp,.bool o.eM,I_ o.eC.cM,I_ o.eC.xt,I_ o.eC.cP,S_ o.eC.name,
 I_ o.ea.cM,I_ o.ea.xt,I_ o.ea.cP,S_ o.ea.name,I_ o.cu,I_ o.cF,.bool o.is,.map (some o.qT),.map (some o.ie),o.reset]
def tp(w:World)(g:Nat)(o:Oc):Prop:=w.heap[g]?=some (.cells o.cells 59 (0,0))
theorem tp.ct{w w':World}{g:Nat}{o:Oc}(h:tp w g o){S:Nat->Prop}(k:cq S w w')(n:¬ S g):tp w' g o:=k.heap h n
theorem tp.Uu{w:World}{g:Nat}{o:Oc}(h:tp w g o):w.cell? ⟨g,17,none⟩=some (.map (some o.qT)):=cp h rfl
theorem tp.Xb{w:World}{g:Nat}{o:Oc}(h:tp w g o):w.cell? ⟨g,18,none⟩=some (.map (some o.ie)):=cp h rfl
theorem tp.er{w:World}{g:Nat}{o:Oc}(h:tp w g o)(i:Nat):w.frozen? ⟨g,i,none⟩=false:=cB h
theorem Cm.LX{X:Nat->Prop}{w w':World}{t s b a f z:Nat}{c:Mc}{x:Sp}{d j r:dK}{m:Mem}(h:Cm X w t s b a f z c x d r)(k:cq (fun g=>g=f\/g=a) w w')(F:Yq w' f b j)(G:dY w' b a m)(H:m.size=x.mem.size):Cm X w' t s b a f z c { x with mem:=m } j r:=by
 obtain⟨⟨K,L,u,v,M⟩,⟨p,I,J,q⟩,⟨R,S,y⟩,⟨A,B,l,n,C⟩⟩:=h.ne;have i:∀ {g:Nat},g≠f->g≠a->¬ (g=f\/g=a):=fun D E e=>by rcases e with e | e;exact D e;exact E e
 refine⟨h.mc.ct k (i v u),h.RP,h.RR,h.RU,⟨k.heap h.sp.head (i (fun e=>p e.symm) h.sp.sT),G,h.sp.yF,h.sp.sT,?_⟩,F,h.rk.ct k (i (fun e=>q e.symm) y),h.mB.ct k (i n l) (fun g o=>i (h.nx g o).2.2.2.1 (h.nx g o).2.2.1),h.nx,⟨⟨K,L,u,v,M⟩,⟨p,I,J,q⟩,⟨R,S,y⟩,⟨A,B,l,n,C⟩⟩⟩;obtain⟨N,O,P,Q⟩:=h.sp.ok;exact⟨N,O,P,by show x.to<=(m.size:Int);rw[H];exact Q⟩
theorem xI(m:Mem)(s:dK)(L:List Int):(dK.push m s L).1.size=m.size:=by
 unfold dK.push;split
 . rfl
 . exact dK.Cr _ _ _
structure Bk where
 mb:Nat
 s:Nat
 b:Nat
 bb:Nat
 db:Nat
 rb:Nat
 hb:Nat
 nb:Nat
 pb:Nat
 X:Nat->Prop
def VM.mc(v:VM)(K:Bk):Mc:=⟨some K.s,some K.db,some K.rb,some K.hb,K.nb,v.ip,v.dU,v.root,v.cF,v.cy,v.cI,v.out,v.mT,v.dL,v.dD,v.cV,v.cC,K.pb⟩
structure VM.Ok(v:VM):Prop where
 d8:v.d.ew % 8=0
 dm:v.d.ew+v.d.gm*8<=v.x.mem.size
 r8:v.r.ew % 8=0
 rm:v.r.ew+v.r.gm*8<=v.x.mem.size
 out:v.out.length<=65536
 mT:v.mT.length<=1099511627776
 LY : -9223372036854775808<=v.cI
 Fy:v.cI<=9223372036854775807
 h0:0<=v.cC
 h1:v.cC<=1048576
 Rm:0<=v.qa
 lt:v.qa<=v.tf
 uE:v.tf<=v.x.mem.size
 Be:0<=v.root
 Bf:v.root<=4194304
structure dZ(w:World)(K:Bk)(v:VM):Prop where
 vm:Cm K.X w K.mb K.s K.b K.bb K.db K.rb (v.mc K) v.x v.d v.r
 hp:w.heap[K.hb]?=some (.cells #[cD K.b,I_ v.qa,I_ v.tf] 298 (0,0))
 ok:v.Ok
 xl:∀ g,K.X g->g<w.heap.size
def Bk.ey(K:Bk)(g:Nat):Prop:=g=K.mb\/g=K.s\/g=K.bb\/g=K.db\/g=K.rb
def PV(K:Bk)(w:World)(q:VM × Int)(e:Ending)(w':World):Prop:=e=.returned (I_ q.2)/\dZ w' K q.1/\cq K.ey w w'
def Uw(K:Bk)(w:World)(q:VM × Int × Int)(e:Ending)(w':World):Prop:=e=.returned (.tuple #[I_ q.2.1,I_ q.2.2])/\dZ w' K q.1/\cq K.ey w w'
def TE(K:Bk)(w:World)(q:VM × Int)(e:Ending)(w':World):Prop:=e=.returned (I_ q.2)/\dZ w' K q.1/\cq (fun g=>g=K.db\/g=K.bb) w w'
def SZ(K:Bk)(w:World)(q:VM × Int)(e:Ending)(w':World):Prop:=e=.returned (I_ q.2)/\dZ w' K q.1/\cq (fun g=>g=K.rb\/g=K.bb) w w'
theorem eQ{w:World}{a b:Nat}{f g:Array Value}{d e:TypeId}{h i:Nat × Nat}(j:w.heap[a]?=some (.cells f d h))(c:w.heap[b]?=some (.cells g e i))(k:(d == e)=false):a≠b:=by
 rintro rfl;rw[j]at c;injection c with c;injection c with _ c _;subst c;simp at k
namespace dZ
variable {w w':World} {K:Bk} {v:VM}
theorem Pu(h:dZ w K v):K.hb≠K.mb/\K.hb≠K.s/\K.hb≠K.b/\K.hb≠K.bb/\K.hb≠K.db/\K.hb≠K.rb :=
 ⟨eQ h.hp h.vm.mc rfl,eQ h.hp h.vm.sp.head rfl,eQ h.hp h.vm.sp.mem.head rfl,eQ h.hp h.vm.sp.mem.rest rfl,eQ h.hp h.vm.dk.head rfl,eQ h.hp h.vm.rk.head rfl⟩
theorem cL(h:dZ w K v)(k:K_ w w'):dZ w' K v:=⟨h.vm.cL k,k.heap h.hp id,h.ok,(fun g a=>Nat.lt_of_lt_of_le (h.xl g a) k.size)⟩
theorem ct{S:Nat->Prop}(h:dZ w K v)(k:cq S w w')(n:¬ S K.mb/\¬ S K.s/\¬ S K.b/\¬ S K.bb/\¬ S K.db/\¬ S K.rb/\¬ S K.hb/\¬ S K.pb)(c:∀ g,K.X g->¬ S g):dZ w' K v :=
 ⟨h.vm.ct k ⟨n.1,n.2.1,n.2.2.1,n.2.2.2.1,n.2.2.2.2.1,n.2.2.2.2.2.1,n.2.2.2.2.2.2.2⟩ c,k.heap h.hp n.2.2.2.2.2.2.1,h.ok,(fun g a=>Nat.lt_of_lt_of_le (h.xl g a) k.size)⟩
theorem sV(h:dZ w K v):K.mb<w.heap.size/\K.s<w.heap.size/\K.b<w.heap.size/\K.bb<w.heap.size/\K.db<w.heap.size/\K.rb<w.heap.size/\K.hb<w.heap.size/\K.pb<w.heap.size:=by
 obtain⟨c,g,_,a,_⟩:=h.vm.mB;exact⟨cA h.vm.mc,cA h.vm.sp.head,h.vm.sp.mem.lt.1,h.vm.sp.mem.lt.2,cA h.vm.dk.head,cA h.vm.rk.head,cA h.hp,a.lt⟩
theorem m0(h:dZ w K v):w.cell? ⟨K.mb,0,none⟩=some (cD K.s):=cp h.vm.mc rfl
theorem m1(h:dZ w K v):w.cell? ⟨K.mb,1,none⟩=some (cD K.db):=cp h.vm.mc rfl
theorem m2(h:dZ w K v):w.cell? ⟨K.mb,2,none⟩=some (cD K.rb):=cp h.vm.mc rfl
theorem m4(h:dZ w K v):w.cell? ⟨K.mb,4,none⟩=some (cD K.nb):=cp h.vm.mc rfl
theorem m5(h:dZ w K v):w.cell? ⟨K.mb,5,none⟩=some (I_ v.ip):=cp h.vm.mc rfl
theorem m6(h:dZ w K v):w.cell? ⟨K.mb,6,none⟩=some (I_ v.dU):=cp h.vm.mc rfl
theorem m7(h:dZ w K v):w.cell? ⟨K.mb,7,none⟩=some (I_ v.root):=cp h.vm.mc rfl
theorem m8(h:dZ w K v):w.cell? ⟨K.mb,8,none⟩=some (I_ v.cF):=cp h.vm.mc rfl
theorem m9(h:dZ w K v):w.cell? ⟨K.mb,9,none⟩=some (I_ v.cy):=cp h.vm.mc rfl
theorem m10(h:dZ w K v):w.cell? ⟨K.mb,10,none⟩=some (I_ v.cI):=cp h.vm.mc rfl
theorem m11(h:dZ w K v):w.cell? ⟨K.mb,11,none⟩=some (S_ v.out):=cp h.vm.mc rfl
theorem m13(h:dZ w K v):w.cell? ⟨K.mb,13,none⟩=some (.bool v.dL):=cp h.vm.mc rfl
theorem m16(h:dZ w K v):w.cell? ⟨K.mb,16,none⟩=some (I_ v.cC):=cp h.vm.mc rfl
theorem m17(h:dZ w K v):w.cell? ⟨K.mb,17,none⟩=some (.map (some K.pb)):=cp h.vm.mc rfl
theorem ms(h:dZ w K v):w.cell? ⟨K.s,0,none⟩=some (cD K.b):=h.vm.sp.c0
theorem er(h:dZ w K v)(i:Nat):w.frozen? ⟨K.mb,i,none⟩=false:=cB h.vm.mc
theorem qs{a:VM}(h:dZ w K v)(k:cq (fun g=>g=K.mb) w w')(m:iD w' K.mb (a.mc K))(e:a.x=v.x/\a.d=v.d/\a.r=v.r/\a.qa=v.qa/\a.tf=v.tf)(o:a.Ok):dZ w' K a:=by
 obtain⟨c,f,i,j,l⟩:=e;have b:=h.vm.qs k m ⟨rfl,rfl,rfl,rfl⟩;rw[<- c,<- f,<- i]at b;exact⟨b,by rw[j,l];exact k.heap h.hp h.Pu.1,o,(fun g n=>Nat.lt_of_lt_of_le (h.xl g n) k.size)⟩
theorem vr(h:dZ w K v)(n:Int):dZ (w.setCell ⟨K.mb,5,none⟩ (I_ n)) K { v with ip:=n }:=h.qs (cq.setCell _ _ _ (fun _=>rfl)) (cz h.vm.mc _) ⟨rfl,rfl,rfl,rfl,rfl⟩ { h.ok with }
theorem zg(h:dZ w K v)(n:Int):dZ (w.setCell ⟨K.mb,6,none⟩ (I_ n)) K { v with dU:=n }:=h.qs (cq.setCell _ _ _ (fun _=>rfl)) (cz h.vm.mc _) ⟨rfl,rfl,rfl,rfl,rfl⟩ { h.ok with }
theorem Fz(h:dZ w K v)(n:Int)(a : -9223372036854775808<=n)(b:n<=9223372036854775807):dZ (w.setCell ⟨K.mb,10,none⟩ (I_ n)) K { v with cI:=n }:=h.qs (cq.setCell _ _ _ (fun _=>rfl)) (cz h.vm.mc _) ⟨rfl,rfl,rfl,rfl,rfl⟩ { h.ok with LY:=a,Fy:=b }
theorem Sd(h:dZ w K v)(t:List UInt8)(a:t.length<=65536):dZ (w.setCell ⟨K.mb,11,none⟩ (S_ t)) K { v with out:=t }:=h.qs (cq.setCell _ _ _ (fun _=>rfl)) (cz h.vm.mc _) ⟨rfl,rfl,rfl,rfl,rfl⟩ { h.ok with out:=a }
theorem vt(h:dZ w K v)(n:Int)(a:0<=n)(b:n<=1048576):dZ (w.setCell ⟨K.mb,16,none⟩ (I_ n)) K { v with cC:=n }:=h.qs (cq.setCell _ _ _ (fun _=>rfl)) (cz h.vm.mc _) ⟨rfl,rfl,rfl,rfl,rfl⟩ { h.ok with h0:=a,h1:=b }
theorem AV{a:dK}(h:dZ w K v)(k:cq (fun g=>g=K.db) w w')(c:Yq w' K.db K.b a)(e:a.ew=v.d.ew/\a.gm=v.d.gm):dZ w' K { v with d:=a } :=
 ⟨h.vm.AV k c,k.heap h.hp h.Pu.2.2.2.2.1,{ h.ok with d8:=by show a.ew % 8=0;rw[e.1];exact h.ok.d8,dm:=by show a.ew+a.gm*8<=_;rw[e.1,e.2];exact h.ok.dm },(fun g f=>Nat.lt_of_lt_of_le (h.xl g f) k.size)⟩
theorem Em{r':dK}(h:dZ w K v)(k:cq (fun g=>g=K.rb) w w')(c:Yq w' K.rb K.b r')(e:r'.ew=v.r.ew/\r'.gm=v.r.gm):dZ w' K { v with r:=r' }:=by
 obtain⟨⟨q,s,t,u,f⟩,⟨n,o,p,d⟩,⟨j,l,m⟩,i⟩:=h.vm.ne
 exact⟨⟨h.vm.mc.ct k (fun e=>f e),h.vm.RP,h.vm.RR,h.vm.RU,h.vm.sp.ct k (fun e=>j e.symm) (fun e=>l e.symm) (fun e=>m e.symm),h.vm.dk.ct k (fun e=>d e),c,h.vm.mB.ct k i.2.2.2.2 (fun g a e=>(h.vm.nx g a).2.2.2.2 e),h.vm.nx,h.vm.ne⟩,k.heap h.hp h.Pu.2.2.2.2.2,
  { h.ok with r8:=by show r'.ew % 8=0;rw[e.1];exact h.ok.r8,rm:=by show r'.ew+r'.gm*8<=_;rw[e.1,e.2];exact h.ok.rm },(fun g a=>Nat.lt_of_lt_of_le (h.xl g a) k.size)⟩
theorem qt{x':Sp}(h:dZ w K v)(k:cq (fun g=>g=K.s\/g=K.bb) w w')(l:gR w' K.s K.b K.bb x')(e:x'.mem.size=v.x.mem.size):dZ w' K { v with x:=x' }:=by
 obtain⟨⟨o,y,p,z,A⟩,⟨m,t,n,u⟩,⟨q,B,r⟩,f⟩:=h.vm.ne;have d:=h.Pu;have a:∀ {g:Nat},g≠K.s->g≠K.bb->¬ (g=K.s\/g=K.bb):=fun i j e=>by rcases e with e | e;exact i e;exact j e
 exact⟨⟨h.vm.mc.ct k (a o p),h.vm.RP,h.vm.RR,h.vm.RU,l,h.vm.dk.ct k (a m n),h.vm.rk.ct k (a q r),h.vm.mB.ct k (a f.2.1 f.2.2.1) (fun g c=>a (h.vm.nx g c).2.1 (h.vm.nx g c).2.2.1),h.vm.nx,h.vm.ne⟩,k.heap h.hp (a d.2.1 d.2.2.2.1),
  { h.ok with dm:=by show _<=(x'.mem.size:Int);rw[e];exact h.ok.dm,rm:=by show _<=(x'.mem.size:Int);rw[e];exact h.ok.rm,uE:=by show _<=(x'.mem.size:Int);rw[e];exact h.ok.uE },(fun g c=>Nat.lt_of_lt_of_le (h.xl g c) k.size)⟩
theorem dI{m:Mem}(h:dZ w K v)(k:cq (fun g=>g=K.bb) w w')(c:dY w' K.b K.bb m)(e:m.size=v.x.mem.size):dZ w' K (v.mem m):=by
 have a:=h.vm.sp;obtain⟨d,f,i,j⟩:=a.ok;refine h.qt (x':={ v.x with mem:=m }) (k.mono (fun _ _ e=>.inr e)) ⟨k.heap a.head a.sT,c,a.yF,a.sT,⟨d,f,i,?_⟩⟩ e;show v.x.to<=(m.size:Int);rw[e];exact j
end dZ
theorem gW(K:Bk){w w':World}(k:cq (fun g=>g=K.mb) w w'):cq K.ey w w':=k.mono (fun _ _ e=>.inl e)
theorem qu(K:Bk){w w':World}(k:cq (fun g=>g=K.s\/g=K.bb) w w'):cq K.ey w w':=k.mono (fun _ _ e=>e.elim (fun e=>.inr (.inl e)) (fun e=>.inr (.inr (.inl e))))
theorem mf(K:Bk){w w':World}(k:cq (fun g=>g=K.bb) w w'):cq K.ey w w':=k.mono (fun _ _ e=>.inr (.inr (.inl e)))
theorem vx(K:Bk){w w':World}(k:cq (fun g=>g=K.db) w w'):cq K.ey w w':=k.mono (fun _ _ e=>.inr (.inr (.inr (.inl e))))
theorem FC(K:Bk){w w':World}(k:cq (fun g=>g=K.rb) w w'):cq K.ey w w':=k.mono (fun _ _ e=>.inr (.inr (.inr (.inr e))))
theorem Bg(K:Bk){w w':World}(k:cq (fun g=>g=K.db\/g=K.bb) w w'):cq K.ey w w':=k.mono (fun _ _ e=>e.elim (fun e=>.inr (.inr (.inr (.inl e)))) (fun e=>.inr (.inr (.inl e))))
theorem lJ(K:Bk){w w':World}(k:cq (fun g=>g=K.rb\/g=K.bb) w w'):cq K.ey w w':=k.mono (fun _ _ e=>e.elim (fun e=>.inr (.inr (.inr (.inr e)))) (fun e=>.inr (.inr (.inl e))))
theorem lK(K:Bk){w w':World}(k:K_ w w'):cq K.ey w w':=k.mono (fun _ _ e=>e.elim)
theorem pV(m:Mem)(s:dK)(L:List Int):(dK.push m s L).2.1.ew=s.ew/\(dK.push m s L).2.1.gm=s.gm:=by
 unfold dK.push;split
 . exact⟨rfl,rfl⟩
 . simp only[dK.lW];exact⟨trivial,trivial⟩
theorem rE(m:Mem)(s:dK):(dK.qI m s).1.ew=s.ew/\(dK.qI m s).1.gm=s.gm:=by unfold dK.qI;simp only;split <;> exact⟨rfl,rfl⟩
theorem iO(s:dK)(n:Int):(dK.drop s n).1.ew=s.ew/\(dK.drop s n).1.gm=s.gm:=by unfold dK.drop;split;exact⟨rfl,rfl⟩;split <;> exact⟨rfl,rfl⟩
section
variable (K:Bk) (w:World) (v:VM)
theorem FD(h:dZ w K v)(a:Option Addr)(c:Nat)(L:List Int)(l:iI w a L)(p:L.length<=1048576)(r:∀ g,dF a=some g->g≠K.db/\g≠K.bb) :
 Calls prog 80 #[cD K.db,.slice a L.length c] w (TE K w (v.push L)):=by
 refine(AU w K.db K.b K.bb v.d v.x.mem a c L h.vm.dk h.vm.sp.mem ⟨h.vm.ne.2.1.2.1,h.vm.ne.2.1.2.2.1⟩ l p r).mono ?_;rintro e w' ⟨n,q,m,k⟩;have f:=xI v.x.mem v.d L;have i:=pV v.x.mem v.d L;have j:=h.vm.LX k m q f;refine⟨n,⟨j,k.heap h.hp (fun e=>by have:=h.Pu;rcases e with e | e;exact this.2.2.2.2.1 e;exact this.2.2.2.1 e),?_,(fun g o=>Nat.lt_of_lt_of_le (h.xl g o) k.size)⟩,k⟩;exact { h.ok with d8:=by show(dK.push _ _ _).2.1.ew % 8=0;rw[i.1];exact h.ok.d8,dm:=by show(dK.push _ _ _).2.1.ew+(dK.push _ _ _).2.1.gm*8<=((dK.push _ _ _).1.size:Int);rw[i.1,i.2,f];exact h.ok.dm,rm:=by show _<=((dK.push _ _ _).1.size:Int);rw[f];exact h.ok.rm,uE:=by show _<=((dK.push _ _ _).1.size:Int);rw[f];exact h.ok.uE }
theorem vu(h:dZ w K v)(a:Option Addr)(c:Nat)(L:List Int)(p:iI w a L)(s:L.length<=1048576)(u:∀ g,dF a=some g->g≠K.rb/\g≠K.bb) :
 Calls prog 80 #[cD K.rb,.slice a L.length c] w (SZ K w (v.fX L)):=by
 refine(AU w K.rb K.b K.bb v.r v.x.mem a c L h.vm.rk h.vm.sp.mem ⟨h.vm.ne.2.2.1.2.1,h.vm.ne.2.2.1.2.2⟩ p s u).mono ?_;rintro e w' ⟨q,t,y,k⟩;have j:=xI v.x.mem v.r L;have l:=pV v.x.mem v.r L;obtain⟨⟨M,N,B,O,C⟩,⟨I,J,z,A⟩,⟨H,P,Q⟩,m⟩:=h.vm.ne;have d:∀ {g:Nat},g≠K.rb->g≠K.bb->¬ (g=K.rb\/g=K.bb):=fun n o e=>by rcases e with e | e;exact n e;exact o e
 have f:=h.vm.sp;obtain⟨D,E,F,G⟩:=f.ok
 refine⟨q,⟨⟨h.vm.mc.ct k (d C B),h.vm.RP,h.vm.RR,h.vm.RU,⟨k.heap f.head (d (fun e=>H e.symm) f.sT),t,f.yF,f.sT,⟨D,E,F,by show v.x.to<=((dK.push _ _ _).1.size:Int);rw[j];exact G⟩⟩,h.vm.dk.ct k (d A z),y,h.vm.mB.ct k (d m.2.2.2.2 m.2.2.1) (fun g i=>d (h.vm.nx g i).2.2.2.2 (h.vm.nx g i).2.2.1),h.vm.nx,h.vm.ne⟩,
  k.heap h.hp (d h.Pu.2.2.2.2.2 h.Pu.2.2.2.1),?_,(fun g i=>Nat.lt_of_lt_of_le (h.xl g i) k.size)⟩,k⟩
 exact { h.ok with r8:=by show(dK.push _ _ _).2.1.ew % 8=0;rw[l.1];exact h.ok.r8,rm:=by show(dK.push _ _ _).2.1.ew+(dK.push _ _ _).2.1.gm*8<=((dK.push _ _ _).1.size:Int);rw[l.1,l.2,j];exact h.ok.rm,dm:=by show _<=((dK.push _ _ _).1.size:Int);rw[j];exact h.ok.dm,uE:=by show _<=((dK.push _ _ _).1.size:Int);rw[j];exact h.ok.uE }
theorem Se(h:dZ w K v):Calls prog 43 #[cD K.db] w (Uw K w v.qI) :=
 (Fp w K.db K.b K.bb v.d v.x.mem h.vm.dk h.vm.sp.mem).mono fun _ _ ⟨c,a,k⟩=>⟨c,h.AV k a (rE _ _),vx K k⟩
theorem zh(h:dZ w K v):Calls prog 43 #[cD K.rb] w (Uw K w v.jO) :=
 (Fp w K.rb K.b K.bb v.r v.x.mem h.vm.rk h.vm.sp.mem).mono fun _ _ ⟨c,a,k⟩=>⟨c,h.Em k a (rE _ _),FC K k⟩
theorem LZ(n:Int)(h:dZ w K v):Calls prog 53 #[cD K.db,I_ n] w (PV K w (v.fE n)) :=
 (oW w K.db K.b v.d n h.vm.dk).mono fun _ _ ⟨c,a,k⟩=>⟨c,h.AV k a (iO _ _),vx K k⟩
theorem L0(n:Int)(h:dZ w K v):Calls prog 53 #[cD K.rb,I_ n] w (PV K w (v.dw n)) :=
 (oW w K.rb K.b v.r n h.vm.rk).mono fun _ _ ⟨c,a,k⟩=>⟨c,h.Em k a (iO _ _),FC K k⟩
theorem vv(h:dZ w K v):Calls prog 18 #[cD K.db] w fun e w'=>e=.returned (I_ v.d.depth)/\w=w':=mW w K.db K.b v.d h.vm.dk
theorem pC(h:dZ w K v):Calls prog 18 #[cD K.rb] w fun e w'=>e=.returned (I_ v.r.depth)/\w=w':=mW w K.rb K.b v.r h.vm.rk
theorem jv(a:Int)(h:dZ w K v):Calls prog 81 #[cD K.b,I_ a] w fun e w'=>e=.returned (.tuple #[I_ (v.cell a).1,I_ (v.cell a).2])/\w=w':=eu w K.b K.bb v.x.mem a h.vm.sp.mem
theorem DO(a n:Int)(h:dZ w K v):Calls prog 85 #[cD K.b,I_ a,I_ n] w (PV K w (v.setCell a n)) :=
 (ed w K.b K.bb v.x.mem a n h.vm.sp.mem).mono fun _ _ ⟨c,d,k⟩=>⟨c,h.dI k d (Mem.cQ _ _ _),mf K k⟩
theorem vw(n:Int)(t:TypeId):iI (w.alloc (.cells #[I_ n] t)) (some ⟨w.heap.size,0,none⟩) [n]:=fun i a=>⟨w.heap.size,0,rfl,by
 obtain rfl:i=0:=by simpa using a
 exact cp (cx w _) rfl⟩
theorem L1(n m:Int)(t:TypeId):iI (w.alloc (.cells #[I_ n,I_ m] t)) (some ⟨w.heap.size,0,none⟩) [n,m]:=fun i a=>⟨w.heap.size,0,rfl,by
 match i,a with
 | 0,_=>exact cp (cx w _) rfl
 | 1,_=>exact cp (cx w _) rfl⟩
theorem TE.pv{q:VM × Int}{e:Ending}{w':World}(h:TE K w q e w'):PV K w q e w':=⟨h.1,h.2.1,Bg K h.2.2⟩
theorem zi(h:dZ w K v):∀ g,dF (some ⟨w.heap.size,0,none⟩)=some g->(g≠K.db/\g≠K.bb)/\(g≠K.rb/\g≠K.bb):=fun g e=>by
 cases e;have:=h.sV;show(w.heap.size≠K.db/\w.heap.size≠K.bb)/\(w.heap.size≠K.rb/\w.heap.size≠K.bb);omega
theorem Bh(h:dZ w K v):¬ (K.mb=K.rb\/K.mb=K.bb):=fun e=>e.elim h.vm.ne.1.2.2.2.2 h.vm.ne.1.2.2.1
theorem L2(n:Int)(t:TypeId)(h:dZ w K v):Calls prog 80 #[cD K.db,.slice (some ⟨w.heap.size,0,none⟩) 1 1] (w.alloc (.cells #[I_ n] t)) (TE K w (v.push [n])) :=
 (FD K _ v (h.cL (cq.alloc _ _ _)) _ 1 [n] (vw w n t) (show 1<=1048576 by decide) (fun g e=>(zi K w v h g e).1)).mono fun _ _ h=>⟨h.1,h.2.1,(cq.alloc _ _ _).trans h.2.2⟩
theorem DP(n:Int)(t:TypeId)(h:dZ w K v):Calls prog 80 #[cD K.rb,.slice (some ⟨w.heap.size,0,none⟩) 1 1] ((w.alloc (.cells #[I_ n] t)).drew) (SZ K w (v.fX [n])) :=
 (vu K _ v (h.cL ((dR w _).trans (cq.drew _ _))) _ 1 [n] (vw w n t) (show 1<=1048576 by decide) (fun g e=>(zi K w v h g e).2)).mono fun _ _ h=>⟨h.1,h.2.1,((cq.alloc _ w _).trans (cq.drew _ _)).trans h.2.2⟩
theorem DQ(n m:Int)(t:TypeId)(h:dZ w K v):Calls prog 80 #[cD K.rb,.slice (some ⟨w.heap.size,0,none⟩) 2 2] ((w.alloc (.cells #[I_ n,I_ m] t)).drew) (SZ K w (v.fX [n,m])) :=
 (vu K _ v (h.cL ((dR w _).trans (cq.drew _ _))) _ 2 [n,m] (L1 w n m t) (show 2<=1048576 by decide) (fun g e=>(zi K w v h g e).2)).mono fun _ _ h=>⟨h.1,h.2.1,((cq.alloc _ w _).trans (cq.drew _ _)).trans h.2.2⟩
theorem jh(n:Int)(t:TypeId)(h:dZ w K v):Calls prog 80 #[cD K.db,.slice (some ⟨w.heap.size,0,none⟩) 1 1] (w.alloc (.cells #[I_ n] t)) (PV K w (v.push [n])):=(L2 K w v n t h).mono fun _ _ h=>h.pv
end
section
variable (K:Bk) (w:World) (v:VM)
theorem wM(xt:Int)(h:dZ w K v)(z:0<=xt)(A:xt<=4194304):Calls prog 408 #[cD K.mb,I_ xt] w (PV K w (v.fA xt)):=by
 have i:=fun V (s:dZ V K v)=>DP K V v v.ip 2 s;have a:v.fA xt=if(v.fX [v.ip]).2≠0 then v.fX [v.ip] else({ (v.fX [v.ip]).1 with ip:=xt+8 },0):=rfl;generalize v.fA xt=Q at a |-;generalize v.fX [v.ip]=q at a i;obtain⟨y,l⟩:=q;simp only at a;have o:=cq.refl K.ey w;have k:=h.m2;have f:=h.m5;have g:=Bh K w v h;go_enter func408,ntmps408;go_wp2_with fail
 go_region_held3 (fun w'=>C_ w' K.mb 2=some (cD K.rb)/\C_ w' K.mb 5=some (I_ v.ip))
  (first | go_keep | exact⟨m,n⟩)
  (first | (go_at_call 80;refine(i w h).mono ?_;rintro e t ⟨rfl,d,c⟩;dsimp only;have m:=c.cell k g;have n:=c.cell f g))
 have j:=o.trans (lJ K c);clear c m n k f;by_cases b:l=0
 . subst b
   have a:=a;rw[if_neg (by simp)]at a;have f:=d.m5;have x:=d.er 5;have r:=d.vr (xt+8);have p:=j.trans (gW K (cq.setCell t ⟨K.mb,5,none⟩ (I_ (xt+8)) (fun _=>rfl)));subst a;clear a;go_wp2;go_ret;exact⟨rfl,r,p⟩
 . have u:(l != 0)=true:=by simp[b]
   have a:=a;rw[if_pos b]at a;subst a;clear a b;go_wp2;go_ret;exact⟨rfl,d,j⟩
end
section
variable (K:Bk) (w:World) (v:VM)
def Xe(K:Bk)(w:World)(v:VM)(e:Ending)(w':World):Prop:=e=.returned (.tuple #[])/\dZ w' K v/\cq K.ey w w'
theorem L3(t:List UInt8)(h:dZ w K v)(A:t.length<=4611686018427387904):Calls prog 86 #[cD K.mb,S_ t] w (Xe K w (v.put t)):=by
 have z:=h.ok.out;obtain⟨k,g⟩:∃ k:Nat,k=65536-v.out.length:=⟨_,rfl⟩;have m:(v.out++t.take k).length<=65536:=by simp;omega
 have o:v.put t={ v with out:=v.out++t.take k }:=by unfold VM.put;rw[g]
 rw[o];have b:=h_ (h.Sd (v.out++t.take k) m);have a:=h_ (gW K (cq.setCell w ⟨K.mb,11,none⟩ (S_ (v.out++t.take k)) (fun _=>rfl)));have B:IntKind.i64.wrap ((65536:Int)-(v.out.length:Int))=(k:Int):=by rw[IntWalk.i64_in _ (by omega)];omega
 have j:=h_ h;have s:=h_ (cq.refl K.ey w);have u:=j.out.m11;have x:=j.out.er 11;have c:=za v.out (t.take k);have i:=h_ g;clear h m o g;by_cases l:k<t.length
 . have q:((k:Int)<(t.length:Int))=True:=by simp;omega
   have d:=jg t 0 k (Nat.zero_le _);rw[List.drop_zero,Nat.sub_zero]at d;have n:¬ 9223372036854775807<v.out.length+(t.take k).length:=by rw[List.length_take];have:=i.out;omega
   generalize v.out++t.take k=r at b a c |-;generalize t.take k=C at d c n;have y:k<=t.length:=by omega
   clear l;go_enter func86,ntmps86;go_wp2_with fail;go_region
   have f:=h_ (b.out.cL (cq.drew _ _));have e:=h_ (a.out.trans (cq.drew _ _));go_wp2_with fail;go_end0;exact⟨rfl,f.out,e.out⟩
 . have q:((k:Int)<(t.length:Int))=False:=by simp;omega
   have d:=jg t 0 t.length (Nat.zero_le _);rw[List.drop_zero,Nat.sub_zero,List.take_length]at d;have p:t.take k=t:=List.take_of_length_le (by omega);rw[p]at b a c |-;have n:¬ 9223372036854775807<v.out.length+t.length:=by have:=i.out;omega
   generalize v.out++t=r at b a c |-;clear l p;go_enter func86,ntmps86;go_wp2_with fail;go_region
   have f:=h_ (b.out.cL (cq.drew _ _));have e:=h_ (a.out.trans (cq.drew _ _));go_wp2_with fail;go_end0;exact⟨rfl,f.out,e.out⟩
theorem FE(h:dZ w K v):Calls prog 140 #[cD K.mb] w fun e w'=>e=.returned (I_ v.oj)/\K_ w w':=Po w K.mb K.s K.b K.bb _ v.x h.vm.mc rfl h.vm.sp
theorem kV(h:dZ w K v):Calls prog 297 #[cD K.mb] w (Uw K w v.inline):=by
 have b:=h_ fun V (o:dZ V K v)=>jv K V v v.ip o;have i:v.inline=({ v with ip:=wrap64 (v.ip+8) },v.cell v.ip):=rfl;rw[i];clear i;generalize v.cell v.ip=q at b |-;obtain⟨n,e⟩:=q;simp only at b;have g:=h_ fun (q:fP w)=>(b.out q.1 (h.cL q.2)).mono (fun e w' (h:_/\_)=>(⟨h.1,h.2 ▸ cq.refl (fun _=>False) _⟩:_/\K_ q.1 w'));have s:=fun (q:fP w)=>q.2.cell h.m0 id;have t:=fun (q:fP w)=>q.2.cell h.m5 id;have u:=fun (q:fP w)=>q.2.cell h.ms id;have l:=h_ h;have x:=h_ (cq.refl K.ey w);clear h b;go_enter func297,ntmps297;go_wp2_with fail;refine Go.Proofs.K.cW ?iX ?iY ?_;case iX=>kernel_rfl
 case iY=>kernel_rfl
 repeat ((with_reducible refine wpQuiet_step ?_);intro c a;go_simp;first | ((with_reducible refine a _ ?_);clear a c) | (refine a _ ?_;clear a c) | (apply Exists.intro;refine⟨fun _=>?_,a _ ?_⟩;(first | exact Go.Proofs.K.gO (g.out _));clear a c))
 with_reducible refine wpQuiet_nil ?_
 intro A p;obtain⟨⟨B,f⟩,r⟩:=p;subst r;have d:=h_ (l.out.cL f);have j:=h_ (lK K f);have y:=d.out.m5;have z:=d.out.er 5;clear s t u g f;have m:=h_ (d.out.vr (wrap64 (v.ip+8)));have k:=h_ (j.out.trans (gW K (cq.setCell _ ⟨K.mb,5,none⟩ (I_ (wrap64 (v.ip+8))) (fun _=>rfl))));go_wp2_with fail;go_ret2;exact⟨rfl,m.out,k.out⟩
theorem sH(xt o:Int)(h:dZ w K v):Calls prog 363 #[cD K.mb,I_ xt,I_ o] w (PV K w (v.method xt o)):=by
 have j:=h_ (jv K w v xt h);have L:=h.vm.sp.mem.le;have l:=h_ fun V (J:dZ V K v)=>DQ K V v v.dU v.ip 2 J
 have g:=h_ (show(v.cell xt).2=0->0<=xt/\xt<=4194304 from fun u=>by
  unfold VM.cell Mem.cell at u;split at u
  . rename_i b;rw[Mem.dX]at b;omega
  . rename_i b;exact absurd u b)
 have a:v.method xt o=if(v.cell xt).2≠0\/(v.cell xt).1≠1004 then(v,-14)else if(v.fX [v.dU,v.ip]).2≠0 then v.fX [v.dU,v.ip] else({ (v.fX [v.dU,v.ip]).1 with dU:=o,ip:=xt+8 },0):=rfl;generalize v.method xt o=Q at a |-;generalize v.cell xt=c at a j g;generalize v.fX [v.dU,v.ip]=q at a l;obtain⟨n,e⟩:=c;obtain⟨R,z⟩:=q;simp only at a j g;have d:=h_ a;clear a L;have p:=h_ (Bh K w v h);have f:=h_ h;have r:=h_ (cq.refl K.ey w);have G:=f.out.m0;have y:=f.out.m2;have s:=f.out.m5;have t:=f.out.m6;have H:=f.out.ms;clear h;by_cases b:e=0
 . subst b
   by_cases m:n=1004
   . subst m
     obtain⟨S,T⟩:=g.out rfl;clear g;go_enter func363,ntmps363;go_wp2_with fail;refine eD (j.out) ?_;go_wp2_with fail
     go_region_held3 (fun w'=>C_ w' K.mb 2=some (cD K.rb)/\C_ w' K.mb 5=some (I_ v.ip)/\C_ w' K.mb 6=some (I_ v.dU))
      (first | go_keep | exact⟨B,C,D⟩)
      (first | (go_at_call 80;refine(l.out w f.out).mono ?_;rintro e M ⟨rfl,A,k⟩;dsimp only;have B:=k.cell y p.out;have C:=k.cell s p.out;have D:=k.cell t p.out))
     have i:=h_ A;have x:=h_ (r.out.trans (lJ K k));clear A k B C D;try clear G;try clear y;try clear s;try clear t;try clear H
     by_cases b:z=0
     . subst b
       have a:=d.out;rw[if_neg (by simp),if_neg (by simp)]at a;have s:=i.out.m5;have t:=i.out.m6;have O:=i.out.er 5;have P:=i.out.er 6;have F:=h_ ((i.out.zg o).vr (xt+8));have E:=h_ ((x.out.trans (gW K (cq.setCell M ⟨K.mb,6,none⟩ (I_ o) (fun _=>rfl)))).trans (gW K (cq.setCell _ ⟨K.mb,5,none⟩ (I_ (xt+8)) (fun _=>rfl))));subst a;clear d;go_wp2_with fail;go_ret;exact⟨rfl,F.out,E.out⟩
     . have I:(z != 0)=true:=by simp[b]
       have a:=d.out;rw[if_neg (by simp),if_pos b]at a;subst a;clear d b;go_wp2_with fail;go_ret;exact⟨rfl,i.out,x.out⟩
   . have N:(n != 1004)=true:=by simp[m]
     have a:=d.out;rw[if_pos (.inr m)]at a;subst a;clear d g l m;go_enter func363,ntmps363;go_wp2_with fail;refine eD (j.out) ?_;go_wp2_with fail;go_ret;exact⟨rfl,f.out,r.out⟩
 . have I:(e != 0)=true:=by simp[b]
   have a:=d.out;rw[if_pos (.inl b)]at a;subst a;clear d g l b;go_enter func363,ntmps363;go_wp2_with fail;refine eD (j.out) ?_;go_wp2_with fail;go_ret;exact⟨rfl,f.out,r.out⟩
end
theorem L5(n:Nat):Array.replicate n (Value.int .i64 0)=((List.replicate n (0:Int)).map (Value.int .i64)).toArray:=by simp
theorem Ia(n:Nat):madeCells (Value.int .i64 0).cells n=Array.replicate n (I_ 0):=by
 apply Array.ext';unfold madeCells;simp[Value.cells];apply List.ext_getElem
 . simp
 . intro i a b
   simp[Nat.mod_one]
theorem L6{L:List Int}{i:Nat}(h:i<L.length):((L.map (Value.int .i64)).toArray)[i]?=some (I_ (L.getD i 0)):=by simp[h]
def oA(w:World)(la:Nat)(L:List Int):Prop:=w.heap[la]?=some (.cells (L.map (Value.int .i64)).toArray 2 (0,0))
theorem oA.ct{w w':World}{a:Nat}{L:List Int}(h:oA w a L){S:Nat->Prop}(k:cq S w w')(n:¬ S a):oA w' a L:=k.heap h n
theorem oA.nf{w:World}{K:Bk}{v:VM}{a:Nat}{L:List Int}(h:oA w a L)(r:dZ w K v):¬ K.ey a:=fun e=>by
 rcases e with e | e | e | e | e
 . exact eQ h r.vm.mc rfl e
 . exact eQ h r.vm.sp.head rfl e
 . exact eQ h r.vm.sp.mem.rest rfl e
 . exact eQ h r.vm.dk.head rfl e
 . exact eQ h r.vm.rk.head rfl e
theorem oA.cell{w:World}{a:Nat}{L:List Int}(h:oA w a L){i:Nat}(b:i<L.length):w.cell? ⟨a,i,none⟩=some (I_ (L.getD i 0)):=cp h (L6 b)
section
variable (K:Bk) (w:World) (v:VM)
def L7(K:Bk)(w:World)(v:VM)(n:Nat)(e:Ending)(w':World):Prop :=
 ∃ la,e=.returned (.tuple #[.slice (some ⟨la,0,none⟩) n n,I_ 0])/\oA w' la (VM.fo v.x.mem v.d n)/\dZ w' K { v with d:={ v.d with depth:=v.d.depth-n } }/\cq K.ey w w'
theorem Sg(h:dZ w K v)(i:Nat)(a:(i:Int)<v.d.depth):VM.qI { v with d:={ v.d with depth:=v.d.depth-i } }=({ v with d:={ v.d with depth:=v.d.depth-i-1 } },(dK.cM v.x.mem v.d i).1,0):=by
 obtain⟨b,e,f,c,g,j,k⟩:=h.vm.dk.ok;have:=dK.Ru v.x.mem v.d i b h.ok.d8 h.ok.dm c (by omega) a;unfold VM.qI;simp only;rw[this]
theorem tr(n:Nat)(j:n<=8)(h:dZ w K v)(a:v.d.depth<n):Calls prog 407 #[cD K.mb,I_ n] w fun e w'=>e=.returned (.tuple #[.slice none 0 0,I_ (-4)])/\w=w':=by
 have b:=h_ (vv K w v h);have i:decide (v.d.depth<(n:Int))=true:=decide_eq_true a;have c:=h_ h;have f:=h_ (cq.refl K.ey w);have g:=c.out.m1;clear h a;go_enter func407,ntmps407;go_wp2_with fail;refine eD (b.out) ?_;go_wp2_with fail;go_ret2;exact⟨rfl,rfl⟩
theorem zj(n:Nat)(hn:n<=8)(h:dZ w K v)(O:n<=v.d.depth):Calls prog 407 #[cD K.mb,I_ n] w (L7 K w v n):=by
 have Z:=h_ (vv K w v h);have d1:decide (v.d.depth<(n:Int))=false:=decide_eq_false (by omega);obtain⟨i0,R,af,ag,ah⟩:=info_parts py;have z:=fun w=>run_make (P:=prog) w 22 2 i0 (I_ 0) underlying22 R af .i64 .i64 n n (by omega) (by omega) (by rw[ah];omega) (by omega);rw[ag]at z;have ad:∀ w,(Instr.makeSlice 22 (I_ n) (I_ n)).run prog w=.ok (.slice (some ⟨w.heap.size,0,none⟩) n n) (w.alloc (.cells (Array.replicate n (I_ 0)) 2)):=fun w=>(z w).trans (by rw[show((n:Int)).toNat*1=n by omega,Ia];rfl);clear z;obtain⟨L,u⟩:∃ L,L=VM.fo v.x.mem v.d n:=⟨_,rfl⟩;have M:L.length=n:=by rw[u,VM.ry]
 have F:=h_ u;have k:=h_ M;have aa:=h_ O;have t:=h_ h;have K0:=h_ (cq.refl K.ey w);have c1:=t.out.m1;clear h O u M;go_enter func407,ntmps407;go_wp2_with fail;refine eD (Z.out) ?_;go_wp2_with fail;have p:oA (w.alloc (.cells (Array.replicate n (I_ 0)) 2)) w.heap.size (VM.part L 0):=by unfold oA;rw[VM.Hq,k.out,<- L5];exact cx w _
 have q:=dR w (.cells (Array.replicate n (I_ 0)) 2);obtain⟨a,y⟩:∃ a,a=w.heap.size:=⟨_,rfl⟩;rw[<- y]at p |-;generalize w.alloc (.cells (Array.replicate n (I_ 0)) 2)=V at p q |-;have I:=h_ (t.out.cL q);have Y:=h_ p;have KA:=h_ q;have G:=h_ (Nat.le_of_eq y.symm);clear p q y ad;try clear c1
 go_loopw [19] (fun B wr=>∃ i:Nat,B=I_ i/\i<=n/\oA wr a (VM.part L i)/\dZ wr K { v with d:={ v.d with depth:=v.d.depth-i } }/\cq (fun g=>K.ey g\/g=a) V wr) (fun B _=>n-(intOf B).toNat)
 case atStart =>
  refine⟨0,rfl,Nat.zero_le _,Y.out,?_,cq.refl _ _⟩;have:=I.out;rw[show({ v with d:={ v.d with depth:=v.d.depth-((0:Nat):Int) } }:VM)=v by simp];exact this
 case round =>
  obtain⟨i,rfl,R,U,X,S⟩:=hrel;have r:=h_ U;have o:=h_ X;have E:=h_ S;clear U X S;by_cases ac:i<n
  . obtain⟨j,hj⟩:∃ j:Nat,j=n-1-i:=⟨_,rfl⟩
    have m:=h_ (Se K wr _ o.out);rw[Sg K V v I.out i (by have:=aa.out;omega)]at m;have T:(dK.cM v.x.mem v.d i).1=L.getD j 0:=by
     have ab:j<(VM.fo v.x.mem v.d n).length:=by rw[VM.ry];omega
     rw[F.out,List.getD,List.getElem?_eq_getElem ab,Option.getD_some,VM.Ll];congr 2;omega
    rw[T]at m;have A:=VM.Hr L i (by have:=k.out;omega);rw[show L.length-1-i=j by have:=k.out;omega]at A;have H:=h_ A;have ak:(n:Int)-1-(i:Int)=(j:Int):=by omega
    have HJ:=h_ (show j<n from by omega);have q1:C_ wr K.mb 1=some (cD K.db):=o.out.m1;have ai:(0:Int)<=(j:Int):=by omega
    have aj:(j:Int)<(n:Int):=by omega
    generalize L.getD j 0=x at m H;clear T hj A;go_wp2_with fail;refine m.out.mono ?_;rintro e l ⟨rfl,f,C⟩;have b:=r.out.ct C (r.out.nf o.out);have z0:C_ l a j=some (I_ ((VM.part L i).getD j 0)):=b.cell (by rw[VM.mU,k.out];exact HJ.out);have z1:=cB (i:=j) b;have D:cq (fun g=>g=a) l (l.setCell ⟨a,j,none⟩ (I_ x)):=cq.setCell _ _ _ (fun _=>rfl);have N:oA (l.setCell ⟨a,j,none⟩ (I_ x)) a (VM.part L (i+1)):=by
     have J:=cz (i:=j) b (I_ x);unfold oA;rw[J,<- H.out];simp
    have N1:=h_ N;have c:=b.nf f
    have R1:=h_ (f.ct D ⟨fun e=>c (by rw[<- show K.mb=a from e];exact .inl rfl),fun e=>c (by rw[<- show K.s=a from e];exact .inr (.inl rfl)),eQ f.vm.sp.mem.head b rfl,fun e=>c (by rw[<- show K.bb=a from e];exact .inr (.inr (.inl rfl))),fun e=>c (by rw[<- show K.db=a from e];exact .inr (.inr (.inr (.inl rfl)))),fun e=>c (by rw[<- show K.rb=a from e];exact .inr (.inr (.inr (.inr rfl)))),eQ f.hp b rfl,(fun e=>by
     obtain⟨nn,g,_,ae,_⟩:=f.vm.mB
     exact cX.jt (show cX ik l K.pb nn g from ae) _ _ _ (by rw[show K.pb=a from e];exact b))⟩ (fun g Q e=>by
     have J:=t.out.xl g Q;have h2:=G.out;have e:g=a:=e
     omega))
    have K1:=h_ ((E.out.trans (C.mono (fun _ _ e=>.inl e))).trans (D.mono (fun _ _ e=>.inr e)));clear D N c f C b;go_wp2_with fail;go_roundw;case rel =>
     refine⟨i+1,by go_num,ac,N1.out,?_,K1.out⟩;have:=R1.out;rw[show v.d.depth-((i+1:Nat):Int)=v.d.depth-i-1 by omega];exact this
    case measure=>simp[intOf];omega
  . have he:i=n:=by omega
    subst he;have W:VM.part L i=L:=by rw[<- k.out,VM.Lm]
    have NF:=h_ (W ▸ r.out);have KF:=h_ ((lK K KA.out).dh E.out (fun g Q e=>by rcases e with e | e;exact e;have:=G.out;omega));clear W;go_wp2_with fail;go_ret2;exact⟨a,rfl,F.out ▸ NF.out,o.out,KF.out⟩
end
def jD(x:Int):Prop := -9223372036854775808<=x/\x<=9223372036854775807
def Enters(f:Nat):Prop:=∀ (args:Array Value) (w:World),(callFunc f args).run Tryz.prog w=.ok (.enter f args) w
structure DR(D:Int)(n f:Nat)(F:VM->List Int->VM × Int):Prop where
 L8:Enters f
 ok:∀ (K:Bk) (w:World) (v:VM) (la c:Nat) (L:List Int),dZ w K v->v.d.depth<D->oA w la L->L.length=n->(∀ x ∈ L,jD x)->Calls Tryz.prog f #[cD K.mb,.slice (some ⟨la,0,none⟩) n c] w (PV K w (F v L))
structure L9(D:Int)(n f:Nat)(u:Value)(F:VM->List Int->VM × Int):Prop where
 L8:Enters f
 ok:∀ (K:Bk) (w:World) (v:VM) (la c g:Nat) (L:List Int),dZ w K v->v.d.depth<D->K.X g->w.cell? ⟨g,0,none⟩=some u->oA w la L->L.length=n->(∀ x ∈ L,jD x) ->
  Calls Tryz.prog f #[cD K.mb,.slice (some ⟨la,0,none⟩) n c,cD g] w (PV K w (F v L))
structure FF(f:Nat)(G:VM->VM × Int × Int):Prop where
 L8:Enters f
 ok:∀ (K:Bk) (w:World) (v:VM),dZ w K v->Calls Tryz.prog f #[cD K.mb] w (Uw K w (G v))
structure vz(f:Nat)(R:VM->Int->Int × Int):Prop where
 L8:Enters f
 ok:∀ (K:Bk) (w:World) (v:VM) (a:Int),dZ w K v->jD a->Calls Tryz.prog f #[cD K.mb,I_ a] w fun e w'=>e=.returned (.tuple #[I_ (R v a).1,I_ (R v a).2])/\K_ w w'
structure pD(f:Nat)(G:VM->VM × Int):Prop where
 L8:Enters f
 ok:∀ (K:Bk) (w:World) (v:VM),dZ w K v->Calls Tryz.prog f #[cD K.mb] w (PV K w (G v))
theorem vA(m:Mem)(d:dK)(n:Nat):∀ x ∈ VM.fo m d n,jD x:=by
 intro x a;unfold VM.fo at a;obtain⟨i,_,rfl⟩:=List.mem_map.1 a;unfold dK.cM;split
 . unfold jD;simp
 . split
   . unfold jD;simp
   . exact Mem.fh _ _
theorem dZ.Ib{w:World}{K:Bk}{v:VM}(h:dZ w K v){g:Nat}(a:K.X g):¬ K.ey g:=fun e=>by
 have:=h.vm.nx g a;rcases e with e | e | e | e | e
 . exact this.1 e
 . exact this.2.1 e
 . exact this.2.2.1 e
 . exact this.2.2.2.1 e
 . exact this.2.2.2.2 e
section
variable (K:Bk) (w:World) (v:VM)
theorem yq(D:Int)(n f:Nat)(F:VM->List Int->VM × Int)(S:1<=n)(q:n<=8)(s:DR D n f F)(g i:Nat)(h:dZ w K v)(k:v.d.depth<D+1)(P:w.cell? ⟨g,0,none⟩=some (I_ n))(j:w.cell? ⟨i,0,none⟩=some (bY f))(N:K.X g)(O:K.X i) :
 Calls prog 406 #[cD K.mb,cD g,cD i] w (PV K w (v.iF n F)):=by
 have C:=h_ (And.intro (h.Ib N) (h.Ib O));have R:∀ (p:Array Value) (w:World),(callFunc f p).run prog w=.ok (.enter f p) w:=s.L8;have z:=h_ s;have B:=h_ (vA v.x.mem v.d n);try unfold bY at j
 by_cases a:v.d.depth<n
 . have c:=h_ (tr K w v n q h a)
   have b:v.iF n F=(v,-4):=by unfold VM.iF;rw[if_pos a]
   rw[b];have o:=h_ h;have m:=h_ (cq.refl K.ey w);clear h a b k;go_enter func406,ntmps406;go_wp2_with fail;refine eD (c.out) ?_;go_wp2_with fail;go_ret;exact⟨rfl,o.out,m.out⟩
 . have c:=h_ (zj K w v n q h (by omega))
   have b:v.iF n F=F { v with d:={ v.d with depth:=v.d.depth-n } } (VM.fo v.x.mem v.d n):=by unfold VM.iF;rw[if_neg a]
   have A:=h_ b;have y:=h_ (VM.ry v.x.mem v.d n);have u:=h_ k;have o:=h_ h;have m:=h_ (cq.refl K.ey w);clear h a b k;go_enter func406,ntmps406;go_wp2_with fail;refine c.out.mono ?_;rintro e M ⟨L,rfl,r,t,l⟩;have H:=h_ r;have I:=h_ t;have E:=h_ l;have Q:=l.cell j C.out.2;clear j r t l;go_wp2_with fail;refine nv (z.out.ok K M _ L n _ I.out (by have:=u.out;show v.d.depth-n<D;omega) H.out y.out B.out) E ?_;intro T J G
   skip
   go_wp2_with fail;go_ret;rw[A.out];exact⟨rfl,J.out,G.out⟩
theorem Bi(D:Int)(n f:Nat)(u:Value)(F:VM->List Int->VM × Int)(Y:1<=n)(t:n<=8)(A:L9 D n f u F)(i j g:Nat)(h:dZ w K v)(l:v.d.depth<D+1)(U:w.cell? ⟨i,0,none⟩=some (I_ n))(k:w.cell? ⟨j,0,none⟩=some (.func (.func f) #[] #[cD g]))(y:w.cell? ⟨g,0,none⟩=some u)(S:K.X i)(T:K.X j)(C:K.X g) :
 Calls prog 406 #[cD K.mb,cD i,cD j] w (PV K w (v.iF n F)):=by
 have o:=h_ (And.intro y (h.Ib C));clear y;have L:=h_ (And.intro (h.Ib S) (h.Ib T));have W:∀ (s:Array Value) (w:World),(callFunc f s).run prog w=.ok (.enter f s) w:=A.L8;have H:=h_ A;have J:=h_ (vA v.x.mem v.d n);try unfold bY at k
 by_cases a:v.d.depth<n
 . have c:=h_ (tr K w v n t h a)
   have b:v.iF n F=(v,-4):=by unfold VM.iF;rw[if_pos a]
   rw[b];have r:=h_ h;have p:=h_ (cq.refl K.ey w);clear h a b l;go_enter func406,ntmps406;go_wp2_with fail;refine eD (c.out) ?_;go_wp2_with fail;go_ret;exact⟨rfl,r.out,p.out⟩
 . have c:=h_ (zj K w v n t h (by omega))
   have b:v.iF n F=F { v with d:={ v.d with depth:=v.d.depth-n } } (VM.fo v.x.mem v.d n):=by unfold VM.iF;rw[if_neg a]
   have I:=h_ b;have G:=h_ (VM.ry v.x.mem v.d n);have E:=h_ l;have r:=h_ h;have p:=h_ (cq.refl K.ey w);clear h a b l;go_enter func406,ntmps406;go_wp2_with fail;refine c.out.mono ?_;rintro e R ⟨Q,rfl,z,B,m⟩;have N:=h_ z;have O:=h_ B;have q:=h_ m;have V:=m.cell k L.out.2;clear k z B m;go_wp2_with fail;refine nv (H.out.ok K R _ Q n g _ O.out (by have:=E.out;show v.d.depth-n<D;omega) C (q.out.cell o.out.1 o.out.2) N.out G.out J.out) q ?_;intro Z P M
   skip
   go_wp2_with fail;go_ret;rw[I.out];exact⟨rfl,P.out,M.out⟩
theorem Ic(f:Nat)(G:VM->VM × Int × Int)(l:FF f G)(g:Nat)(h:dZ w K v)(s:w.cell? ⟨g,0,none⟩=some (bY f)) :
 Calls prog 405 #[cD K.mb,cD g] w (PV K w (VM.oT G v)):=by
 have z:∀ (k:Array Value) (w:World),(callFunc f k).run prog w=.ok (.enter f k) w:=l.L8;have i:=h_ (l.ok K w v h);have a:VM.oT G v=if(G v).2.2≠0 then((G v).1,(G v).2.2)else(G v).1.push [(G v).2.1]:=rfl;generalize VM.oT G v=Q at a |-;generalize G v=q at a i;obtain⟨t,n,e⟩:=q;simp only at a;have b:=h_ a;unfold bY at s;have x:=h_ h;have m:=h_ (cq.refl K.ey w);clear h a;go_enter func405,ntmps405;go_wp2_with fail;refine nv (i.out) m ?_;intro u d j
 skip
 by_cases c:e=0
 . subst c
   have a:=b.out;rw[if_neg (by simp)]at a;subst a;clear b;have r:=d.out.m1;go_wp2_with fail;refine nv (jh K u t n 2 d.out) j ?_;intro A p o;try clear r
   go_wp2_with fail;go_ret;exact⟨rfl,p.out,o.out⟩
 . have y:(e != 0)=true:=by simp[c]
   have a:=b.out;rw[if_pos c]at a;subst a;clear b c;go_wp2_with fail;go_ret;exact⟨rfl,d.out,j.out⟩
end
theorem DS:FF 297 VM.inline:=⟨fun a w=>call297 a w,fun K w v h=>kV K w v h⟩
theorem DT:pD 295 (fun v=>let q:=v.jO;({ q.1 with ip:=q.2.1 },q.2.2)):=by
 refine⟨fun j w=>call295 j w,?_⟩;intro K w v h;have b:=h_ (zh K w v h);have g:=h_ h;have c:=h_ (cq.refl K.ey w);have k:=g.out.m2;clear h;simp only;generalize v.jO=q at b |-;obtain⟨p,n,e⟩:=q;go_enter func295,ntmps295;go_wp2_with fail;refine nv (b.out) c ?_;intro l a d;try clear k
 have m:=a.out.m5;have o:=a.out.er 5;have i:=h_ (a.out.vr n);have f:=h_ (d.out.trans (gW K (cq.setCell l ⟨K.mb,5,none⟩ (I_ n) (fun _=>rfl))));go_wp2_with fail;go_ret;exact⟨rfl,i.out,f.out⟩
section
variable (K:Bk) (w:World) (v:VM)
end
section
variable (K:Bk) (w:World) (v:VM)
end
theorem Sp.ts:∀ (k:Nat) (x:Sp),(Sp.fD k x).1.mem.size=x.mem.size
 | 0,_=>rfl
 | k+1,x=>by
  unfold Sp.fD;split
  . rfl
  . split
    . exact Sp.pq _ _
    . rw[Sp.ts k];exact Sp.pq _ _
def ja(fb:Nat):Value:=.func (.func 173) #[cD fb] #[]
theorem zd(w:World)(a b c j d:Nat)(o:Oc)(t f:List UInt8->Option Value)(l:tp w a o)(u:cX sk w o.ie j t)(J:cX sk w b d f)(N:o.ie≠b)(hn:j+d<=1000) :
 Calls Tryz.prog 23 #[.pointer (some ⟨a,0,none⟩),.map (some b),ja c] w fun e w'=>e=.returned (.tuple #[])/\tp w' a { o with reset:=ja c }/\cX sk w' o.ie (j+d) (dL f t)/\cq (fun g=>g=a\/g=o.ie) w w':=by
 have ag:=u.lt;have ah:=cA l;have P:a≠o.ie:=fun e=>cX.jt u _ _ _ (e ▸ l);have O:a≠b:=fun e=>cX.jt J _ _ _ (e ▸ l);have n:=And.intro P (And.intro O N);clear P O N;unfold ja;go_enter Tryz.func23,Tryz.ntmps23
 go_wp2_with (first
  | (at_range;refine kK sk _ rfl _ 57 rfl _ Tryz.underlying57 b d f rfl J ?_;intro w0 W Q M)
  | go_in)
 go_frame
 go_loopw [12] (fun _ wr=>∃ (s:List UInt8->Bool) (r m:Nat),iJ sk wr b w.heap.size d f s r/\m+r<=j+d/\cX sk wr o.ie m (sW f t s)/\cq (fun g=>g=o.ie) w wr) (fun _ wr=>wr.rangeLeft b w.heap.size)
 case atStart =>
  refine⟨_,W,j,Q,by have:=Q.yO;omega,?_,M.mono (fun _ _ e=>e.elim)⟩;rw[sX];exact u.ct M id
 case round =>
  obtain⟨s,r,m,B,hm,K,z⟩:=hrel
  go_wp2_with (first
   | (at_next;refine kL sk _ rfl _ rfl b w.heap.size d f s r rfl B ?_ ?_)
   | go_in)
  . intro hl
    have p:=l.ct z n.1;have q:=tp.er p 19;have C:cq (fun k=>k=a) wr (wr.setCell ⟨a,19,none⟩ (ja c)):=cq.setCell _ _ _ (fun _=>rfl);have I:=show tp (wr.setCell ⟨a,19,none⟩ (ja c)) a { o with reset:=ja c } from cz p _;have V:wr.cell? ⟨a,19,none⟩=some o.reset:=cp p rfl;have U:=((K.mono (show m<=j+d by omega)).congr (fun x hx=>xo _ _ _ _ (hl x hx)));have H:=(U.ct C (fun e=>n.1 (by have e:o.ie=a:=e;exact e.symm)));have G:=(z.mono (T:=fun g=>g=a\/g=o.ie) (fun _ _ e=>.inr e)).trans (C.mono (fun _ _ e=>.inl e));have ae:(store ⟨a,19,none⟩ (ja c)).run Tryz.prog wr=.ok () (wr.setCell ⟨a,19,none⟩ (ja c)):=by
     have h:=run_store Tryz.prog wr ⟨a,19,none⟩ (ja c) .plain rfl;rw[V]at h;simpa[q] using h
    unfold ja at I H G ae;clear p C;go_wp2;go_end0;exact⟨rfl,I,H,G⟩
  . intro x v D X ac ab Z ad aa y Y
    have hr:=B.sV;have R:=(K.ct y (fun e=>by have e:o.ie=w.heap.size:=e;omega));have E:=(z.dh y (fun i hi e=>by have e:i=w.heap.size:=e;omega));have af:D.cell? ⟨a,18,none⟩=some (.map (some o.ie)):=(l.ct E n.1).Xb;change (Instr.entry (.pointer (some ⟨w.heap.size,0,none⟩))).run Tryz.prog D=.ok (.tuple #[.string ⟨x.toArray⟩,v]) D at Y;rw[show sk.val x=Value.string ⟨x.toArray⟩ from rfl];clear y ab
    go_wp2_with (first
     | (at_mapUpdate;refine jM sk _ rfl _ _ _ 57 (.inl rfl) _ Tryz.underlying57 o.ie m _ rfl R (by unfold maxLen;omega) x ac v rfl rfl ?_;intro w2 L A;go_frame)
     | go_in)
    have F:=(ad.ct A (fun e=>n.2.2 (by have e:b=o.ie:=e;exact e.symm)) (fun e=>by have e:w.heap.size=o.ie:=e;omega));have S:=E.trans A;rw[uQ _ _ _ _ _ Z]at L;clear A;go_roundw;case rel=>exact⟨_,X,m+1,F,by omega,L,S⟩
    case measure=>rw[F.left_eq,B.left_eq];exact aa
theorem Mem.vp(m:Mem)(a n:Int):(m.dJ a n).1.length<=n.toNat:=by
 unfold Mem.dJ;split
 . rw[gK];exact Nat.le_refl _
 . exact Nat.zero_le _
theorem Mem.Ba{m:Mem}{a:Int}{d:Wd}{l:Int}(e:m.Ym a=some (d,l)):d.name.length<=31:=by
 unfold Mem.Ym at e;simp only at e;split at e
 . cases e
 . rename_i b
   split at e
   . cases e
   . injection e with e
     injection e with e _;have:=Mem.vp m (a+16) ((m.cell (a+8)).1 % 256);rw[<- e];simp only;omega
theorem Mem.Bb(m:Mem)(k:Nat):∀ b a,∀ d ∈ m.ic k b a,d.name.length<=31:=by
 induction k with
 | zero=>intro _ _ d h;cases h
 | succ k c =>
  intro b a d h;unfold Mem.ic at h;split at h
  . split at h
    . rename_i w l e
      rcases List.mem_cons.1 h with rfl | h
      . exact Mem.Ba e
      . exact c _ _ _ h
    . cases h
  . cases h
theorem Mem.DL(m:Mem)(a:Int):∀ d ∈ m.fR a,d.name.length<=31:=by
 intro d h;unfold Mem.fR at h;split at h
 . cases h
 . exact Mem.Bb _ _ _ _ _ h
def LV(f:List UInt8->Option Value)(d:Wd):List UInt8->Option Value:=ny f d.name (I_ d.xt)
theorem jQ{w:World}{o:Obj}{n:Nat}(h:w.heap.size=n):(w.alloc o).heap[n]?=some o:=by rw[<- h];exact cx w o
theorem fG{w:World}{o x:Obj}{n:Nat}(h:w.heap[n]?=some x):(w.alloc o).heap[n]?=some x:=(dp w o (cA h)).trans h
theorem DM{w:World}{x:Obj}{n:Nat}(h:w.heap[n]?=some x):w.drew.heap[n]?=some x:=h
theorem sG(w:World):w.drew.heap=w.heap:=rfl
def Uv(mb q la m1 m2:Nat):Oc:=⟨mb,q,.slice (some ⟨la,0,none⟩) 1 1,.slice none 0 0,false,false,Wd.none,Wd.none,0,0,false,m1,m2,.nilFunc⟩
theorem Fw(w:World)(e:TypeId)(a:List Value)(g n:Nat)(h:w.heap[g]?=some (.cells a.toArray e (0,0)))(b:a.length=n)(c:n<=maxLen):fp w e 1 (some ⟨g,0,none⟩) n n a:=by
 refine⟨by simpa using b,.inr ⟨g,n,a.toArray,rfl,Nat.zero_le _,h,Nat.le_refl _,c,by simpa using b,?_⟩⟩;simp[<- b]
def Bc(w0 w:World)(b n:Nat)(f:List UInt8->Option Value):Prop:=cX sk w b n f/\w0.heap.size<=b/\K_ w0 w
theorem Bc.kf(w:World):Bc w (w.alloc (.map #[] 0)) w.heap.size 0 (fun _=>none):=⟨cX.kf sk w,Nat.le_refl _,cq.alloc _ _ _⟩
theorem eV{h:World}(w:World){d:Array Oper}{g:List Oper}{o:Oper}{a:Act}{Q:Exit->Act->World->Prop}(t:o.guard=none)(m x v:Operand)(y:o.op=Op.mapUpdate 268 m x v\/o.op=Op.insert 268 m x v)(b n:Nat)(f:List UInt8->Option Value)
 (u:a.eval m=.map (some b)) (z:Bc h w b n f) (E:n<1000) (s:List UInt8) (A:s.length<=1000) (c:Value) (C:a.eval x=S_ s) (B:a.eval v=c)
 (r:∀ w',Bc h w' b (n+1) (ny f s c)->wpList prog d Q g (a.put o.dst undef) w'):wpList prog d Q (o :: g) a w:=by
 obtain⟨j,k,l⟩:=z;refine jM sk w t m x v 268 y _ underlying268 b n f u j (by unfold maxLen;omega) s (Nat.le_trans A (by unfold maxLen;omega)) c C B ?_;intro w' p q
 exact r w' ⟨p,k,l.dh q (fun i D e=>by
  have e:i=b:=e
  omega)⟩
def mY(K:List UInt8->Option Nat)(x:List UInt8)(k:Nat):List UInt8->Option Nat:=fun y=>if y=x then some k else K y
theorem iT{f:List UInt8->Option Value}{K:List UInt8->Option Nat}{s:List UInt8}(x:List UInt8)(k:Nat)(h:f s=(K s).map bY):(ny f x (bY k)) s=(mY K x k s).map bY:=by
 unfold ny mY;by_cases e:s=x
 . rw[if_pos e,if_pos e];rfl
 . rw[if_neg e,if_neg e];exact h
def gr:List UInt8->Option Nat:=(mY (mY (mY (mY (mY (mY (mY (mY (mY (mY (mY (mY (fun _=>none) [99,108,97,115,115] 160) [101,110,100,99,108,97,115,115] 161) [105,118,97,114] 162) [109,101,116,104,111,100] 163) [114,101,100,101,102,105,110,101] 164) [101,110,100,109] 165) [105,110,116,101,114,102,97,99,101] 166) [105,109,112,108,101,109,101,110,116,115] 167) [45,62] 168) [58,58] 169) [115,117,112,101,114] 170) [111,98,106,101,99,116] 171)
def DN:List UInt8->Option Value:=(ny (ny (ny (ny (ny (ny (ny (ny (ny (ny (ny (ny (fun _=>none) [99,108,97,115,115] (bY 160)) [101,110,100,99,108,97,115,115] (bY 161)) [105,118,97,114] (bY 162)) [109,101,116,104,111,100] (bY 163)) [114,101,100,101,102,105,110,101] (bY 164)) [101,110,100,109] (bY 165)) [105,110,116,101,114,102,97,99,101] (bY 166)) [105,109,112,108,101,109,101,110,116,115] (bY 167)) [45,62] (bY 168)) [58,58] (bY 169)) [115,117,112,101,114] (bY 170)) [111,98,106,101,99,116] (bY 171))
theorem Fx(s:List UInt8):DN s=(gr s).map bY:=(iT _ _ (iT _ _ (iT _ _ (iT _ _ (iT _ _ (iT _ _ (iT _ _ (iT _ _ (iT _ _ (iT _ _ (iT _ _ (iT _ _ rfl))))))))))))
theorem VZ(a:Addr)(d:Fn)(c b:Array Value)(w:World):(store a (.func d c b)).run prog w=stored prog w a (.func d c b) .plain:=run_store _ _ _ _ _ rfl
def iy(w:World)(lo fb:Nat)(left:List UInt8->Bool)(f:List UInt8->Option Value):Prop :=
 ∀ s,match gr s with
  | none=>f s=none
  | some k=>if left s then f s=none else ∃ g,f s=some (.func (.func 172) #[] #[cD g,cD fb])/\lo<=g/\w.heap[g]?=some (.cells #[bY k] 267 (0,0))
theorem Yp{K:List UInt8->Option Nat}{x:List UInt8}{k:Nat}{s:List UInt8}(h:mY K x k s≠none)(b:x.length<=20)(a:K s≠none->s.length<=20):s.length<=20:=by
 unfold mY at h;by_cases e:s=x
 . rw[e];exact b
 . rw[if_neg e]at h;exact a h
theorem LW{s:List UInt8}:gr s≠none->s.length<=20:=(fun h=>Yp h (by decide) (fun h=>Yp h (by decide) (fun h=>Yp h (by decide) (fun h=>Yp h (by decide) (fun h=>Yp h (by decide) (fun h=>Yp h (by decide) (fun h=>Yp h (by decide) (fun h=>Yp h (by decide) (fun h=>Yp h (by decide) (fun h=>Yp h (by decide) (fun h=>Yp h (by decide) (fun h=>Yp h (by decide) (fun h=>absurd rfl h)))))))))))))
theorem iy.ct{w w':World}{c d:Nat}{j:List UInt8->Bool}{f:List UInt8->Option Value}(h:iy w c d j f){S:Nat->Prop}(k:cq S w w')(o:∀ g,c<=g->¬ S g):iy w' c d j f:=by
 intro s;have a:=h s;cases i:gr s with
 | none=>simp only[i]at a |-;exact a
 | some n =>
  simp only[i]at a |-;split
  . rename_i b;rw[if_pos b]at a;exact a
  . rename_i b
    rw[if_neg b]at a;obtain⟨g,l,e,m⟩:=a;exact⟨g,l,e,k.heap m (o g e)⟩
theorem iy.start(w:World)(c a:Nat):iy w c a (fun s=>(DN s).isSome) (fun _=>none):=by
 intro s;cases b:gr s with
 | none=>rfl
 | some n =>
  have:(DN s).isSome=true:=by rw[Fx,b];rfl
  show if(DN s).isSome=true then _ else _;rw[if_pos this]
theorem iy.step{w:World}{b a:Nat}{c:List UInt8->Bool}{f:List UInt8->Option Value}(h:iy w b a c f)(x:List UInt8)(n:Nat)(l:gr x=some n)(g:Nat)(j:b<=g)(i:w.heap[g]?=some (.cells #[bY n] 267 (0,0))) :
 iy w b a (fun y=>c y && !decide (y=x)) (ny f x (.func (.func 172) #[] #[cD g,cD a])):=by
 intro s;have k:=h s;unfold ny;by_cases e:s=x
 . subst e
   simp only[l];rw[if_neg (by simp)];exact⟨g,by simp,j,i⟩
 . rw[if_neg e]
   have d:decide (s=x)=false:=decide_eq_false e;simp only[d,Bool.not_false,Bool.and_true];exact k
theorem iy.done{w:World}{g c:Nat}{d:List UInt8->Bool}{f:List UInt8->Option Value}(h:iy w g c d f)(i:∀ x,x.length<=20->d x=false):iy w g c (fun _=>false) f:=by
 intro s;have a:=h s;cases b:gr s with
 | none=>simp only[b]at a |-;exact a
 | some n =>
  simp only[b]at a |-;rw[if_neg (by rw[i s (LW (by rw[b];exact fun e=>by cases e))];exact fun e=>by cases e)]at a;exact a
theorem iy.low{w:World}{i c:Nat}{e:List UInt8->Bool}{f:List UInt8->Option Value}(h:iy w i c e f)(j:Nat)(b:j<=i):iy w j c e f:=by
 intro s;have a:=h s;cases d:gr s with
 | none=>simp only[d]at a |-;exact a
 | some n =>
  simp only[d]at a |-;split
  . rename_i b;rw[if_pos b]at a;exact a
  . rename_i b
    rw[if_neg b]at a;obtain⟨g,k,m,l⟩:=a;exact⟨g,k,by omega,l⟩
theorem H9(f:List UInt8->Option Value):dL f (fun _=>none)=f:=by
 funext s;unfold dL;cases f s <;> rfl
theorem Xc(w:World)(a b c d e:Obj):∃ W,W=((((w.alloc a).alloc b).alloc c).alloc d).alloc e/\W.heap[w.heap.size]?=some a/\W.heap[w.heap.size+1]?=some b/\W.heap[w.heap.size+1+1]?=some c/\W.heap[w.heap.size+1+1+1]?=some d/\W.heap[w.heap.size+1+1+1+1]?=some e /\
 W.heap.size=w.heap.size+5/\K_ w W:=by
 refine⟨_,rfl,?_,?_,?_,?_,?_,?_,?_⟩
 . exact fG (fG (fG (fG (cx _ _))))
 . exact fG (fG (fG (jQ (by simp only[World.size_alloc]))))
 . exact fG (fG (jQ (by simp only[World.size_alloc])))
 . exact fG (jQ (by simp only[World.size_alloc]))
 . exact jQ (by simp only[World.size_alloc])
 . simp only[World.size_alloc]
 . exact((((cq.alloc _ _ _).trans (cq.alloc _ _ _)).trans (cq.alloc _ _ _)).trans (cq.alloc _ _ _)).trans (cq.alloc _ _ _)
def vq(ob m1 m2:Nat):Array Value:=#[cD ob,.map (some m1),.map (some m2),I_ 0,I_ 0,I_ 0,I_ 0,.string ⟨#[]⟩,I_ 0,.slice none 0 0,I_ 0,I_ 0,I_ 0]
def TG(w:World)(mb:Nat)(cF:Int)(v:Value)(wx:World):Prop :=
 ∃ g q la m1 m2:Nat,v=cD g/\tp wx g (Uv mb q la m1 m2)/\wx.heap[la]?=some (.cells #[I_ cF] 2 (0,0))/\wx.heap[m1]?=some (.map #[] 0)/\wx.heap[m2]?=some (.map #[] 0)/\m1≠m2 /\
  w.heap.size<=g/\w.heap.size<=la/\w.heap.size<=m1/\w.heap.size<=m2/\K_ w wx/\w.heap.size<=q/\jB wx q [] 0
def vB(w:World)(mb:Nat)(cF:Int)(L:List Wd)(e:Ending)(w':World):Prop :=
 ∃ g q la m1 m2:Nat,e=.returned (cD g)/\tp w' g (Uv mb q la m1 m2)/\fp w' 2 1 (some ⟨la,0,none⟩) 1 1 [I_ cF]/\cX sk w' m1 L.length (L.foldl LV (fun _=>none))/\cX sk w' m2 0 (fun _=>none)/\m1≠m2 /\
  w.heap.size<=g/\w.heap.size<=la/\w.heap.size<=m1/\w.heap.size<=m2/\K_ w w'/\w.heap.size<=q/\jB w' q [] 0
theorem DU(w:World)(mb s b bb:Nat)(c:Mc)(x:Sp)(hc:iD w mb c)(hs:c.sp=some s)(hx:gR w s b bb x) :
 Calls Tryz.prog 16 #[cD mb] w (vB w mb c.cF (x.mem.fR c.cF)):=by
 have hmm:=@run_makeMap Tryz.prog;have HC:=h_ hc;have HX:=h_ hx;have m8:w.cell? ⟨mb,8,none⟩=some (I_ c.cF):=hc.c8;have HN:=h_ fun V=>yV V [] (by decide)
 clear hc hx
 go_enter Tryz.func16,Tryz.ntmps16
 go_wp2_with fail
 go_cut [3] (fun v3 wx=>TG w mb c.cF v3 wx)
 case first =>
  go_region_held3 (fun w'=>w'.cell? ⟨mb,8,none⟩=some (I_ c.cF))
   (first | (repeat (first | exact p4 | exact m8 | refine(dR _ _).cell ?_ id | refine(fw _).cell ?_ id)))
   (first
     | (go_at_call 74;refine(HN.out _).mono ?_;rintro e w4 ⟨rfl,sr,k4⟩;dsimp only
        have ks:K_ w w4:=by
         refine cq.trans ?_ k4
         repeat (first | exact cq.refl _ _ | refine cq.trans ?_ (cq.alloc _ _ _) | refine cq.trans ?_ (cq.drew _ _))
        have p4:w4.cell? ⟨mb,8,none⟩=some (I_ c.cF):=ks.cell m8 id
        have s4:=k4.size))
  all_goals
   go_wp2_with fail
   go_meet
   have s0:=ks.size;have e9:w4.heap.toList.length=w4.heap.size:=rfl;have e8:w.heap.toList.length=w.heap.size:=rfl;have s4:=k4.size;simp only[sG,World.size_alloc]at s4
   (try simp only[sG,World.size_alloc]at sr)
   refine⟨_,_,_,_,_,rfl,jQ ?_,?_,?_,?_,?_,?_,?_,?_,?_,?_,?_⟩
   . first | rfl | (simp only[World.size_alloc];done)
   rotate_left 3
   . show ¬ (_:Nat)=_
     omega
   . omega
   . omega
   . omega
   . omega
   . refine cq.trans ks ?_
     repeat (first | exact cq.refl _ _ | refine cq.trans ?_ (cq.alloc _ _ _))
   . refine⟨by first | omega | (simp only[sG,World.size_alloc];omega),jB.ct sr (S:=fun _=>False) ?_ id⟩
     repeat (first | exact cq.refl _ _ | refine cq.trans ?_ (cq.alloc _ _ _))
   all_goals
    repeat (first | (refine jQ ?_;(first | rfl | (simp only[World.size_alloc];done))) | refine fG ?_ | refine k4.heap ?_ id | refine DM ?_)
 case rest =>
  obtain⟨g,q,la,m1,m2,rfl,hro,hla,hm1,hm2,hne,l1,l2,l3,l4,kc,lq,hsr⟩:=hcut;have LQ:=h_ lq;have Va:=h_ hsr;have Ux:=h_ hro;have Vb:=h_ hla;have S0:=h_ hm1;have V0:=h_ hm2;have HL:=h_ (And.intro hne (And.intro (And.intro l1 l2) (And.intro l3 l4)));have KC:=h_ kc;have RC:=h_ (HC.out.ct kc id);have RX:=h_ (HX.out.ct kc id id id);have n8:wc.cell? ⟨mb,8,none⟩=some (I_ c.cF):=kc.cell m8 id;have n0:wc.cell? ⟨mb,0,none⟩=some (cD s):=by rw[RC.out.c0,hs];rfl
  have ns:=RX.out.c0;clear lq hsr hro hla hm1 hm2 hne l1 l2 l3 l4 kc HN m8;go_wp2_with fail;obtain⟨wa,Xf⟩:∃ wa,wa=wc:=⟨_,rfl⟩;subst Xf;have Vc:=h_ fun V (k:K_ wa V)=>vi V b bb x.mem c.cF (RX.out.mem.ct k id id)
  have hwl:=Mem.rW x.mem c.cF;have V7:=h_ (Mem.DL x.mem c.cF);have hms:=RX.out.mem.le;generalize V9:x.mem.fR c.cF=L at Vc hwl V7;have Xg:=h_ V9;clear V9
  go_cut [30,31,32] (fun v30 v31 v32 wx=>∃ a cc,v30=.slice a L.length cc/\v31=I_ L.length/\v32=I_ 0/\ju wa wx a cc L/\K_ wa wx)
  case first =>
   go_region_held3 (fun w'=>w'.cell? ⟨mb,8,none⟩=some (I_ c.cF)/\w'.cell? ⟨mb,0,none⟩=some (cD s)/\w'.cell? ⟨s,0,none⟩=some (cD b))
    (first | go_keep)
    (first
      | (go_at_call 75;refine(Vc.out wa.drew (cq.drew _ _)).mono ?_;rintro e w4 ⟨a4,c4,rfl,o4,k4⟩;dsimp only
         have ks:=(fw wa).trans k4;have p8:=ks.cell n8 id;have p0:=ks.cell n0 id
         have ps:=ks.cell ns id))
   all_goals
    go_wp2_with fail
    go_meet
    exact⟨a4,c4,rfl,rfl,rfl,o4,ks⟩
  case rest =>
   obtain⟨a4,c4,rfl,rfl,rfl,o4,k4⟩:=hcut;have O4:=h_ o4;have K4:=h_ (KC.out.trans k4);have Xh:=cA S0.out;have hgl:=cA Ux.out;have hgm:g≠m1:=fun e=>by have:=Ux.out;unfold tp at this;rw[e,S0.out]at this;cases this
   have hlm:la≠m1:=fun e=>by have:=Vb.out;rw[e,S0.out]at this;cases this
   have M1:=h_ (cX.empty sk (k4.heap S0.out id));have RO:=h_ (tp.ct Ux.out k4 id);have RQ:=h_ (jB.ct Va.out k4 id);have hqm:q≠m1:=fun e=>by have:=Va.out.head;rw[e,S0.out]at this;cases this
   have LA:=h_ (k4.heap Vb.out id);have M2:=h_ (k4.heap V0.out id);have H4:=h_ (show wa.heap.size<=wc.heap.size from k4.size)
   clear o4 k4 Va Ux Vb S0 V0 RC RX n8 n0 ns HC HX Vc;go_wp2_with fail
   go_loopw [32] (fun iv wr=>∃ i:Nat,iv=I_ i/\i<=L.length/\cX sk wr m1 i ((L.take i).foldl LV (fun _=>none))/\cq (fun k=>k=m1) wc wr) (fun iv _=>L.length-(intOf iv).toNat)
   case atStart=>exact⟨0,rfl,Nat.zero_le _,M1.out,cq.refl _ _⟩
   case round =>
    obtain⟨i,rfl,hi,hmap,hk⟩:=hrel;have M7:=h_ hmap;have HK:=h_ hk;clear hmap hk;by_cases hlt:i<L.length
    . have hi0:(0:Int)<=(i:Int):=by omega
      obtain⟨g4,rfl,hg4,y0,y1,y2,y3⟩:=(O4.out.ct HK.out (fun gg hgg e=>by have:=O4.out.2 gg hgg;have e:gg=m1:=e;omega)).at hlt
      have Ty:=h_ (V7.out _ (List.getElem_mem hlt));have Wa:=h_ (show L.take (i+1)=L.take i++[L[i]] from by simp)
      generalize L[i]=d at y0 y1 y2 y3 Ty Wa;obtain⟨da,dx,df,dn⟩:=d;simp only at y0 y1 y2 y3
      go_wp2_with fail;have ka:=dR wr (.cells #[I_ da,I_ dx,I_ df,S_ dn] 53);have hz:=cx wr (.cells #[I_ da,I_ dx,I_ df,S_ dn] 53);have hrs:=HK.out.size;have h4:=H4.out;obtain⟨gz,hgz⟩:∃ gz,gz=wr.heap.size:=⟨_,rfl⟩;rw[<- hgz]at hz |-;have hz1:¬ gz=m1:=by omega
      generalize wr.alloc (.cells #[I_ da,I_ dx,I_ df,S_ dn] 53)=V at ka hz |-;have z1:V.cell? ⟨gz,1,none⟩=some (I_ dx):=cp hz rfl;have z3:V.cell? ⟨gz,3,none⟩=some (S_ dn):=cp hz rfl;have KV:=h_ (HK.out.trans (ka.mono (fun _ _ e=>e.elim)))
      have g17:V.cell? ⟨g,17,none⟩=some (.map (some m1)):=(RO.out.ct KV.out hgm).Uu;obtain⟨w8,hrun,TC,k8⟩:=Ft sk 56 _ Tryz.underlying56 ((M7.out.ct ka id).ct (fw V) id) (show i<maxLen by unfold maxLen;omega) dn (show dn.length<=maxLen from Nat.le_trans Ty.out (by unfold maxLen;omega)) (I_ dx)
      have hrun:(Instr.mapUpdate 56 (.map (some m1)) (S_ dn) (I_ dx)).run Tryz.prog V.drew=.ok () w8:=hrun;have kd:=(cq.drew (fun k=>k=m1) V).trans k8
      have KF:=h_ (KV.out.trans kd);have U8:=h_ TC;have Xi:w8.cell? ⟨g,17,none⟩=some (.map (some m1)):=kd.cell g17 hgm;have h1z:w8.cell? ⟨gz,1,none⟩=some (I_ dx):=kd.cell z1 hz1;have Xj:w8.cell? ⟨gz,3,none⟩=some (S_ dn):=kd.cell z3 hz1;clear hz ka hgz TC k8 kd y0 y1 y2 y3
      go_region_held3 (fun w'=>w'.cell? ⟨g,17,none⟩=some (.map (some m1))/\w'.cell? ⟨gz,1,none⟩=some (I_ dx)/\w'.cell? ⟨gz,3,none⟩=some (S_ dn))
       (first | exact⟨Xi,h1z,Xj⟩ | go_keep)
       (fail)
      go_wp2_with fail
      go_roundw
      case rel =>
       refine⟨i+1,rfl,hlt,?_,KF.out⟩;rw[Wa.out,List.foldl_append];exact U8.out
      case measure=>simp[intOf];omega
    . have he:i=L.length:=by omega
      subst he;have Uy:=M7.out;rw[List.take_length]at Uy;have Uy:=h_ Uy;have Xk:=h_ (RO.out.ct HK.out hgm);have Xl:=h_ (HK.out.heap LA.out hlm);have Xm:=h_ (HK.out.heap M2.out (fun e=>HL.out.1 (by have e:m2=m1:=e;exact e.symm)))
      have KK:=h_ (K4.out.dh HK.out (fun i hi e=>by have:=HL.out.2.2.1;have e:i=m1:=e;omega))
      go_wp2_with fail;go_ret
      rw[Xg.out];exact⟨g,q,la,m1,m2,rfl,Xk.out,Fw _ _ [_] _ _ Xl.out rfl (by decide),Uy.out,cX.empty sk Xm.out,HL.out.1,HL.out.2.1.1,HL.out.2.1.2,HL.out.2.2.1,HL.out.2.2.2,KK.out,LQ.out,RQ.out.ct HK.out hqm⟩
def VM.fresh(dV data ret cy hz:Int)(mT:List UInt8)(y:Sp)(root dD cF cV:Int):VM :=
 { x:=y,d:=⟨dV,data,0,-3,-4⟩,r:=⟨dV+data*8,ret,0,-5,-6⟩,qa:=dV+data*8+ret*8,tf:=dV+data*8+ret*8+hz,ip:=0,dU:=0,root:=root,cF:=cF,cy:=cy,cI:=0,out:=[],mT:=mT,dL:=false,dD:=dD,cV:=cV,cC:=0 }
end Go.Proofs.dS
