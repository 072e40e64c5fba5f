/- A part of WalkG. No condition. -/
import Derived.Test.YthhfkhhhclmimaaGreatDoorM21
import Derived.Test.YthhfkhhhclmimaaGreatDoorM33
import Derived.Test.YthhfkhhhclmimaaGreatDoorM19
import Derived.Test.YthhfkhhhclmimaaGreatDoorM30
import Derived.Test.YthhfkhhhclmimaaGreatDoorM05
set_option linter.unusedVariables false
set_option linter.unusedSimpArgs false
open Go.Proofs.Tryz
set_option maxRecDepth 10000
set_option maxHeartbeats 4000000
namespace Go.Proofs.dS
open Go Go.RowKit Go.Proofs.K
theorem Po(w:World)(i s b j:Nat)(c:Mc)(x:Sp)(g:iD w i c)(l:c.sp=some s)(h:gR w s b j x) :
 Calls Tryz.prog 140 #[.pointer (some ⟨i,0,none⟩)] w fun e w'=>e=.returned (.int .i64 (x.mem.cell c.dD).1)/\cq (fun _=>False) w w':=by
 have k:w.cell? ⟨i,0,none⟩=some (.pointer (some ⟨s,0,none⟩)):=by rw[g.c0,l];rfl
 have P:=fun (q:fP w)=>q.2.cell k id;have p:=fun (q:fP w)=>q.2.cell g.UY id;have Q:=fun (q:fP w)=>q.2.cell h.c0 id;have f:=h_ fun (q:fP w)=>(eu q.1 b j x.mem c.dD (h.mem.ct q.2 id id)).mono (fun e w' (h:_/\_)=>(⟨h.1,h.2 ▸ cq.refl (fun _=>False) _⟩:_/\cq (fun _=>False) q.1 w'));generalize x.mem.cell c.dD=q at f |-;obtain⟨v,e⟩:=q;obtain⟨N,u,I,B,F,D,L,J,E,M,z,G,C,H,r,t,A,y⟩:=c;simp only at p f;clear g l h k;go_enter Tryz.func140,Tryz.ntmps140;go_wp2_with fail;refine Go.Proofs.K.cW ?iX ?iY ?_;case iX=>kernel_rfl
 case iY=>kernel_rfl
 repeat ((with_reducible refine wpQuiet_step ?_);intro d a;go_simp;first | ((with_reducible refine a _ ?_);clear a d) | (refine a _ ?_;clear a d) | (apply Exists.intro;refine⟨fun _=>?_,a _ ?_⟩;(first | exact K.gO (f.out _));clear a d))
 with_reducible refine wpQuiet_nil ?_
 intro _ m;obtain⟨⟨O,o⟩,n⟩:=m;subst n;go_wp2;go_ret;exact⟨rfl,o⟩
theorem za(a b:List UInt8):Value.string ((⟨a.toArray⟩:ByteArray)++⟨b.toArray⟩)=S_ (a++b):=by
 congr 1
open Go Go.RowKit Go.Proofs.K Go.Proofs.tI
theorem Ft{P:Program}{k:TypeId}{α:Type}[DecidableEq α](kk:oN P k α){w:World}{b n:Nat}{f:α->Option Value}(t e:TypeId)(ht:P.underlying t=some (.map k e))(hown:cX kk w b n f)(hn:n<maxLen)(key:α)(hok:kk.ok key)(val:Value) :
 ∃ w',(Instr.mapUpdate t (.map (some b)) (kk.val key) val).run P w=.ok () w'/\cX kk w' b (n+1) (ny f key val)/\cq (fun g=>g=b) w w':=by
 obtain⟨D,hown,hr⟩:=hown;have hD:=(hown.tidy kk.kd).isMap;obtain⟨w',hrun,r1,r2⟩:=hown.update kk.kd ht hn (kk.reads key hok) (show RV val=some (.held val,[]) from rfl);exact⟨w',hrun,⟨_,r1,hr.put hD key val⟩,cq.grown (S:=fun g=>g=b) r2 (fun j _ e=>(Option.some.inj e).symm)⟩
theorem Fu(w:World)(a b c:Obj):∃ W,W=((w.alloc a).alloc b).alloc c/\W.heap[w.heap.size]?=some a/\W.heap[w.heap.size+1]?=some b/\W.heap[w.heap.size+2]?=some c/\W.heap.size=w.heap.size+3/\K_ w W:=by
 refine⟨_,rfl,?_,?_,?_,?_,?_⟩
 . exact(dp _ _ (by first | (simp;done) | (simp;omega))).trans ((dp _ _ (by first | (simp;done) | (simp;omega))).trans (cx _ _))
 . exact(dp _ _ (by first | (simp;done) | (simp;omega))).trans (kh _ _ _)
 . have:=cx ((w.alloc a).alloc b) c
   simpa using this
 . simp
 . exact((cq.alloc _ _ _).trans (cq.alloc _ _ _)).trans (cq.alloc _ _ _)
def tn(w:World)(nb im:Nat)(n:Int):Prop:=w.heap[nb]?=some (.cells #[.map (some im),.slice none 0 0,I_ n] 293 (0,0))/\w.heap[im]?=some (.map #[] 0)
theorem tn.ct{w w':World}{b a:Nat}{n:Int}(h:tn w b a n){S:Nat->Prop}(k:cq S w w')(c:¬ S b)(d:¬ S a):tn w' b a n:=⟨k.heap h.1 c,k.heap h.2 d⟩
theorem DE(w:World)(n:Int):Calls prog 119 #[I_ n] w fun e w'=>∃ a b,e=.returned (cD a)/\(w.heap.size<=a/\w.heap.size<=b/\a<w'.heap.size/\b<w'.heap.size)/\tn w' a b n/\K_ w w':=by
 have c:=@run_makeMap prog;go_enter func119,ntmps119;go_wp2;go_ret;refine⟨w.heap.size+1,w.heap.size,rfl,?_,?_,(cq.alloc _ _ _).trans (cq.alloc _ _ _)⟩
 . simp only[World.size_alloc];omega
 . exact⟨kh _ _ _,(dp _ _ (by simp)).trans (cx _ _)⟩
theorem yo{w:World}{a b:Nat}{f g:Array Value}{d e:TypeId}{h i:Nat × Nat}(j:w.heap[a]?=some (.cells f d h))(c:w.heap[b]?=some (.cells g e i))(k:(d == e)=false):a≠b:=by
 rintro rfl;rw[j]at c;injection c with c;injection c with _ c _;subst c;simp at k
def UZ(w w':World)(nb im lo mb pb b bb:Nat):Prop:=tn w' nb im 1024/\(w.heap.size<=nb/\w.heap.size<=im)/\(nb<lo/\im<lo)/\(nb≠mb/\im≠mb)/\(nb≠pb/\im≠pb)/\(nb≠b/\im≠b)/\(nb≠bb/\im≠bb)
theorem DF(w:World)(a b c:Obj):(((w.alloc a).alloc b).alloc c).heap[w.heap.size]?=some a/\(((w.alloc a).alloc b).alloc c).heap[w.heap.size+1]?=some b/\(((w.alloc a).alloc b).alloc c).heap[w.heap.size+1+1]?=some c/\K_ w (((w.alloc a).alloc b).alloc c):=by
 obtain⟨W,rfl,d,e,f,_,g⟩:=Fu w a b c;exact⟨d,e,f,g⟩
theorem Ji(w:World)(a b:Obj):((w.alloc a).alloc b).heap[w.heap.size]?=some a/\((w.alloc a).alloc b).heap[w.heap.size+1]?=some b/\K_ w ((w.alloc a).alloc b) :=
 ⟨(dp _ _ (by simp)).trans (cx _ _),kh _ _ _,(cq.alloc _ _ _).trans (cq.alloc _ _ _)⟩
theorem rD(w:World)(p:Addr)(v:Value):(w.setCell p v).heap.size=w.heap.size:=by simp
theorem Tu(w:World)(p:Addr)(v:Value)(o:Obj):((w.setCell p v).alloc o).heap[w.heap.size]?=some o:=by
 have:=cx (w.setCell p v) o
 rwa [rD]at this
theorem Tv(w:World)(p:Addr)(v:Value)(a b:Obj):(((w.setCell p v).alloc a).alloc b).heap[w.heap.size]?=some a/\(((w.setCell p v).alloc a).alloc b).heap[w.heap.size+1]?=some b:=by
 have h:=Ji (w.setCell p v) a b;rw[rD]at h;exact⟨h.1,h.2.1⟩
theorem cX.empty{P:Program}{k:TypeId}{c:Type}(a:oN P k c){w:World}{b:Nat}(h:w.heap[b]?=some (.map #[] 0)):cX a w b 0 (fun _=>none) :=
 ⟨.map [],⟨#[],0,h,⟨by simp,Go.MapKept.stamped_empty 0,by simp⟩,Nat.le_refl _,rfl⟩,fun _ _=>rfl,fun _ _ _ h=>by cases h⟩
def AW(nb:Nat)(cy:Int)(mT:List UInt8)(pb:Nat):Mc:=⟨none,none,none,none,nb,0,0,0,0,cy,0,[],mT,false,0,0,0,pb⟩
def Tw(W3:World)(cy:Int)(mT:List UInt8)(v:Value)(wx:World):Prop :=
 ∃ mb nb im pb qK:Nat,v=cD qK/\wx.heap[qK]?=some (.cells #[cD mb] 35 (0,0))/\iD wx mb (AW nb cy mT pb)/\cX ik wx pb 0 (fun _=>none)/\W3.heap.size<=qK/\W3.heap.size<=mb/\W3.heap.size<=pb/\mb≠qK/\(tn wx nb im 1024/\W3.heap.size<=nb/\W3.heap.size<=im/\im≠pb)/\K_ W3 wx
theorem AX(a b:World)(i:Int)(h:List UInt8)(e c g f d:Nat)(j:b.heap[e]?=some (.cells #[cD c] 35 (0,0)))(l:b.heap[c]?=some (.cells (AW g i h d).cells 47 (0,0)))(m:b.heap[d]?=some (.map #[] 0))
 (p:a.heap.size<=e) (q:a.heap.size<=c) (r:a.heap.size<=d) (n:c≠e) (o:tn b g f 1024) (s:a.heap.size<=g) (t:a.heap.size<=f) (u:f≠d) (k:K_ a b):Tw a i h (cD e) b:=⟨c,g,f,d,e,rfl,j,l,cX.empty ik m,p,q,r,n,⟨o,s,t,u⟩,k⟩
structure Ur(x2 x6 x7 x8 x9 qK mb b:Nat)(dV data ret hz cy:Int)(W:World):Prop where
 r2:Tt W x2 dV data ret hz cy
 r6:W.heap[x6]?=some (.cells #[I_ dV] 2 (0,0))
 r7:W.heap[x7]?=some (.cells #[I_ (dV+data*8)] 2 (0,0))
 r8:W.heap[x8]?=some (.cells #[I_ (dV+data*8+ret*8)] 2 (0,0))
 r9:W.heap[x9]?=some (.cells #[cD b] 82 (0,0))
 Pp:W.heap[qK]?=some (.cells #[cD mb] 35 (0,0))
theorem Ur.ct{c d e f g a o b:Nat}{l j p m q:Int}{W i:World}(h:Ur c d e f g a o b l j p m q W){S:Nat->Prop}(k:cq S W i)(n:∀ k,k=c\/k=d\/k=e\/k=f\/k=g\/k=a->¬ S k):Ur c d e f g a o b l j p m q i :=
 ⟨k.heap h.r2 (n _ (by simp)),k.heap h.r6 (n _ (by simp)),k.heap h.r7 (n _ (by simp)),k.heap h.r8 (n _ (by simp)),k.heap h.r9 (n _ (by simp)),k.heap h.Pp (n _ (by simp))⟩
theorem RY(s:List UInt8):ik.ok (num s):=by
 have h:=JO s names 86 fZ;show(Lit.int .i64 (num s)).wf=true;unfold num;have a:0<=yJ s names+1:=by omega
 have b:yJ s names+1<=86:=by omega
 generalize yJ s names+1=n at a b;simp[Lit.wf,IntKind.min,IntKind.max,IntKind.bits,IntKind.signed];omega
structure AY(dV data ret hz:Int)(m1:Mem)(x1 y:Sp)(root dD cF cV:Int):Prop where
 d8:8<=dV
 dm:dV % 8=0
 t0:0<=data
 r0:0<=ret
 U0:16<=hz
 hm:hz % 8=0
 uE:dV+data*8+ret*8+hz<=1048576
 put:Heap.put (Mem.zero (dV+data*8+ret*8+hz).toNat) ⟨dV+data*8+ret*8,hz,false⟩=(m1,0)
 rt:Class.root ⟨m1,8,dV,8⟩=(x1,root,0)
 pr:Vm.qT x1=some (y,dD,cF,cV)
def zb(dV data ret cy hz:Int)(mT:List UInt8)(y:Sp)(root dD cF cV:Int)(w:World)(e:Ending)(w':World):Prop :=
 ∃ mb nb pb s b bb db rb hb lo hi:Nat,e=.returned (.tuple #[cD mb,I_ 0])/\iD w' mb ⟨some s,some db,some rb,some hb,nb,0,0,root,cF,cy,0,[],mT,false,dD,cV,0,pb⟩/\gR w' s b bb y /\
  Yq w' db b ⟨dV,data,0,-3,-4⟩/\Yq w' rb b ⟨dV+data*8,ret,0,-5,-6⟩/\w'.heap[hb]?=some (.cells #[cD b,I_ (dV+data*8+ret*8),I_ (dV+data*8+ret*8+hz)] 298 (0,0))/\Does (fun g=>lo<=g/\g<hi) w' pb /\
  (w.heap.size<=mb/\w.heap.size<=pb/\w.heap.size<=b/\w.heap.size<=bb)/\(mb<lo/\pb<lo/\b<lo/\bb<lo)/\lo<=hi/\hi<=hb/\hb<db/\db<rb/\rb<s/\mb≠pb/\mb≠b/\mb≠bb/\b≠bb/\K_ w w'/\∃ im,UZ w w' nb im lo mb pb b bb
def Pq(x2 x6 x7 x8 x9 qK mb:Nat):Array Value:=#[.func (.func 122) #[] #[Pt x9,Pt x8,Pt x2,Pt qK],.func (.func 124) #[] #[Pt x9,Pt x6,Pt x2,Pt qK],.func (.func 126) #[] #[Pt x9,Pt x7,Pt x2,Pt qK],
 .func (.func 127) #[] #[Pt x9,Pt x2,Pt qK],.func (.func 129) #[] #[Pt qK],.func (.func 131) #[Pt mb] #[]]
theorem RZ(w:World)(dV data ret hz cy:Int)(mT:List UInt8)(m1:Mem)(x1 y:Sp)(root dD cF cV:Int)(ok:AY dV data ret hz m1 x1 y root dD cF cV) :
 Calls prog 71 #[.agg #[I_ dV,I_ data,I_ ret,I_ hz,I_ cy],S_ mT] w (zb dV data ret cy hz mT y root dD cF cV w):=by
 obtain⟨d8,dm,t0,r0,U0,hm,uE,put,rt,pr⟩:=ok;have e1:decide (dV<0)=false:=decide_eq_false (by omega);have e2:decide (data<0)=false:=decide_eq_false (by omega);have e3:decide (ret<0)=false:=decide_eq_false (by omega);have e4:decide (hz<0)=false:=decide_eq_false (by omega);have e5:dV.tmod 8=0:=by rw[Int.tmod_eq_emod_of_nonneg (by omega)];exact dm
 have e6:hz.tmod 8=0:=by rw[Int.tmod_eq_emod_of_nonneg (by omega)];exact hm
 have e7:(dV % 8 != 0)=false:=by simp[dm]
 have e8:(hz % 8 != 0)=false:=by simp[hm]
 have c0:=h_ (cx w (.cells #[I_ dV,I_ data,I_ ret,I_ hz,I_ cy] 119));have K0:=h_ (dR w (.cells #[I_ dV,I_ data,I_ ret,I_ hz,I_ cy] 119));have hs0:(w.alloc (.cells #[I_ dV,I_ data,I_ ret,I_ hz,I_ cy] 119)).heap.size=w.heap.size+1:=by simp
 generalize hW:w.alloc (.cells #[I_ dV,I_ data,I_ ret,I_ hz,I_ cy] 119)=W at c0 K0 hs0;have HW:=h_ hW;have a0:C_ W w.heap.size 0=some (I_ dV):=cp c0.out rfl;have a1:C_ W w.heap.size 1=some (I_ data):=cp c0.out rfl;have a2:C_ W w.heap.size 2=some (I_ ret):=cp c0.out rfl;have a3:C_ W w.heap.size 3=some (I_ hz):=cp c0.out rfl;have a4:C_ W w.heap.size 4=some (I_ cy):=cp c0.out rfl;obtain⟨mx,hmx,hmr⟩:∃ mx:Int,mx<=1048576/\∀ V,(Builtin.max_ #[2,2,2,2] 2 #[I_ dV,I_ hz,I_ data,I_ ret]).run prog V=.ok (I_ mx) V:=by
  refine⟨if ret > (if data > (if hz > dV then hz else dV)then data else(if hz > dV then hz else dV))then ret else(if data > (if hz > dV then hz else dV)then data else(if hz > dV then hz else dV)),?_,fun V=>rfl⟩
  repeat' split
  all_goals omega
 have hmd:decide (1048576<mx)=false:=decide_eq_false (by omega);clear hmx;clear hW;go_enter func71,ntmps71;go_upto_region 1 with fail;rw[HW.out];clear HW;go_wp2_with fail;obtain⟨W1,hW1,x6,x7,x8,hs1,k1⟩:=Fu W (.cells #[I_ dV] 2) (.cells #[I_ (dV+data*8)] 2) (.cells #[I_ (dV+data*8+ret*8)] 2);rw[<- hW1];clear hW1;have hn:nI (dV+data*8+ret*8+hz) W1=fun e w'=>∃ b bb,e=.returned (.tuple #[cD b,I_ 0])/\dY w' b bb (Mem.zero (dV+data*8+ret*8+hz).toNat)/\W1.heap.size<=b/\W1.heap.size<=bb/\K_ W1 w':=by
  funext e w';unfold nI Mem.kG;rw[if_pos (by rw[if_pos (by omega)])]
 have HN:=Oh W1 (dV+data*8+ret*8+hz);rw[hn]at HN;refine HN.mono ?_;rintro e W2 ⟨b,bb,rfl,hm2,hb1,hb2,k2⟩;clear HN hn a0 a1 a2 a3 a4 e1 e2 e3 e4 e5 e6 e7 e8 hmr hmd;have kk:=k1.trans k2;have X2:=h_ (kk.heap c0.out id);have X6:=h_ (k2.heap x6 id);have X7:=h_ (k2.heap x7 id);have X8:=h_ (k2.heap x8 id);have M2:=h_ hm2;have K2:=h_ (K0.out.trans kk);have hs2:=k2.size;have hbl:=hm2.lt;clear x6 x7 x8 hm2 k1 k2 kk c0 K0;go_wp2_with fail;obtain⟨x9,Tx⟩:∃ x9,x9=W2.heap.size:=⟨_,rfl⟩;have X9:=h_ (cx W2 (.cells #[cD b] 82));rw[<- Tx]at X9;have KA:=h_ (dR W2 (.cells #[cD b] 82));have hs3:(W2.alloc (.cells #[cD b] 82)).heap.size=W2.heap.size+1:=by simp
 rw[<- Tx];rw[<- Tx]at hs3;have QH:=h_ Tx;clear Tx;generalize W2.alloc (.cells #[cD b] 82)=W3 at X9 KA hs3 |-;replace X2:=h_ (KA.out.heap X2.out id);replace X6:=h_ (KA.out.heap X6.out id);replace X7:=h_ (KA.out.heap X7.out id);replace X8:=h_ (KA.out.heap X8.out id);replace M2:=h_ (M2.out.ct KA.out id id);replace K2:=h_ (K2.out.trans KA.out);clear KA;have hmm:=@run_makeMap prog;have a4:C_ W3 w.heap.size 4=some (I_ cy):=cp X2.out rfl;have U1:w.heap.size<W3.heap.size:=cA X2.out;have SX:=h_ fun V=>DE V 1024;have QI:=h_ hs3;clear hs3
 go_cut [11] (fun v11 wx=>Tw W3 cy mT v11 wx)
 case first =>
  go_region_held3 (fun w'=>C_ w' w.heap.size 4=some (I_ cy))
   (first | go_keep | (repeat (first | exact p4 | refine(dR _ _).cell ?_ id | refine(cq.setCell (S:=fun k=>k=W3.heap.size) _ ⟨W3.heap.size,0,none⟩ _ (fun _=>rfl)).cell ?_ (by show ¬ w.heap.size=W3.heap.size;omega) | refine(cq.setCell (S:=fun k=>k=W3.heap.size+1) _ ⟨W3.heap.size+1,0,none⟩ _ (fun _=>rfl)).cell ?_ (by show ¬ w.heap.size=W3.heap.size+1;omega))))
   (first
     | (go_at_call 119;refine(SX.out ((W3.alloc (.cells #[.pointer none] 35)).alloc (.map #[] 0)).drew).mono ?_;rintro e w4 ⟨nb,im,rfl,Fv,hnm,k4⟩;dsimp only
        simp only[show ∀ v:World,v.drew.heap=v.heap from fun _=>rfl,World.size_alloc]at Fv;obtain⟨l4,l6,l5,l7⟩:=Fv;have ks:K_ W3 w4:=((dR W3 (.cells #[.pointer none] 35)).trans (dR _ (.map #[] 0))).trans ((fw _).trans k4);have p4:C_ w4 w.heap.size 4=some (I_ cy):=ks.cell a4 id;have s4:=ks.size;have g1:w4.heap.size<w4.heap.size+1:=Nat.lt_succ_self _;have g2:w4.heap.size<w4.heap.size+1+1:=Nat.lt_succ_of_lt g1;have g3:w4.heap.size<=w4.heap.size+1:=Nat.le_succ _;have g4:¬ w4.heap.size=w4.heap.size+1:=by omega
        have g5:¬ w4.heap.size=w4.heap.size+1+1:=by omega
        have nw:w.heap.size≠w4.heap.size:=by omega
        have Us:w4.heap.size≠w.heap.size:=by omega
        have hz:=k4.heap (show(((W3.alloc (.cells #[.pointer none] 35)).alloc (.map #[] 0)).drew).heap[W3.heap.size]?=some (.cells #[.pointer none] 35 (0,0)) from(dp _ _ (by simp)).trans (cx W3 _)) id;have hp:=k4.heap (show(((W3.alloc (.cells #[.pointer none] 35)).alloc (.map #[] 0)).drew).heap[W3.heap.size+1]?=some (.map #[] 0) from kh _ _ _) id;have z0:C_ w4 W3.heap.size 0=some (.pointer none):=cp hz rfl;have q0:w4.frozen? ⟨W3.heap.size,0,none⟩=false:=cB hz;have nz:w.heap.size≠W3.heap.size:=by omega
        have VG:W3.heap.size≠w.heap.size:=by omega
        have lz:=cA hz;have lz1:=Nat.lt_succ_of_lt lz;have lz2:=Nat.ne_of_lt lz;have lz3:=Nat.ne_of_lt lz1;have lz4:=lz2.symm
        have lz5:=lz3.symm)
     | (go_at_call 119;refine(SX.out ((W3.alloc (.map #[] 0)).alloc (.cells #[.pointer none] 35)).drew).mono ?_;rintro e w4 ⟨nb,im,rfl,Fv,hnm,k4⟩;dsimp only
        simp only[show ∀ v:World,v.drew.heap=v.heap from fun _=>rfl,World.size_alloc]at Fv;obtain⟨l4,l6,l5,l7⟩:=Fv;have ks:K_ W3 w4:=((dR W3 (.map #[] 0)).trans (dR _ (.cells #[.pointer none] 35))).trans ((fw _).trans k4);have p4:C_ w4 w.heap.size 4=some (I_ cy):=ks.cell a4 id;have s4:=ks.size;have g1:w4.heap.size<w4.heap.size+1:=Nat.lt_succ_self _;have g2:w4.heap.size<w4.heap.size+1+1:=Nat.lt_succ_of_lt g1;have g3:w4.heap.size<=w4.heap.size+1:=Nat.le_succ _;have g4:¬ w4.heap.size=w4.heap.size+1:=by omega
        have g5:¬ w4.heap.size=w4.heap.size+1+1:=by omega
        have nw:w.heap.size≠w4.heap.size:=by omega
        have Us:w4.heap.size≠w.heap.size:=by omega
        have hz:=k4.heap (show(((W3.alloc (.map #[] 0)).alloc (.cells #[.pointer none] 35)).drew).heap[W3.heap.size+1]?=some (.cells #[.pointer none] 35 (0,0)) from kh _ _ _) id;have hp:=k4.heap (show(((W3.alloc (.map #[] 0)).alloc (.cells #[.pointer none] 35)).drew).heap[W3.heap.size]?=some (.map #[] 0) from(dp _ _ (by simp)).trans (cx W3 _)) id;have z0:C_ w4 ((W3.heap.size+1)) 0=some (.pointer none):=cp hz rfl;have q0:w4.frozen? ⟨(W3.heap.size+1),0,none⟩=false:=cB hz;have nz:w.heap.size≠(W3.heap.size+1):=by omega
        have VG:(W3.heap.size+1)≠w.heap.size:=by omega
        have lz:=cA hz;have lz1:=Nat.lt_succ_of_lt lz;have lz2:=Nat.ne_of_lt lz;have lz3:=Nat.ne_of_lt lz1;have lz4:=lz2.symm
        have lz5:=lz3.symm)
     | (go_at_call 119;refine(SX.out (W3.alloc (.cells #[.pointer none] 35)).drew).mono ?_;rintro e w4 ⟨nb,im,rfl,Fv,hnm,k4⟩;dsimp only
        simp only[show ∀ v:World,v.drew.heap=v.heap from fun _=>rfl,World.size_alloc]at Fv;obtain⟨l4,l6,l5,l7⟩:=Fv;have ks:K_ W3 w4:=((dR W3 (.cells #[.pointer none] 35))).trans ((fw _).trans k4);have p4:C_ w4 w.heap.size 4=some (I_ cy):=ks.cell a4 id;have s4:=ks.size;have g1:w4.heap.size<w4.heap.size+1:=Nat.lt_succ_self _;have g2:w4.heap.size<w4.heap.size+1+1:=Nat.lt_succ_of_lt g1;have g3:w4.heap.size<=w4.heap.size+1:=Nat.le_succ _;have g4:¬ w4.heap.size=w4.heap.size+1:=by omega
        have g5:¬ w4.heap.size=w4.heap.size+1+1:=by omega
        have nw:w.heap.size≠w4.heap.size:=by omega
        have Us:w4.heap.size≠w.heap.size:=by omega
        have hz:=k4.heap (show((W3.alloc (.cells #[.pointer none] 35)).drew).heap[W3.heap.size]?=some (.cells #[.pointer none] 35 (0,0)) from cx W3 _) id;have z0:C_ w4 W3.heap.size 0=some (.pointer none):=cp hz rfl;have q0:w4.frozen? ⟨W3.heap.size,0,none⟩=false:=cB hz;have nz:w.heap.size≠W3.heap.size:=by omega
        have VG:W3.heap.size≠w.heap.size:=by omega
        have lz:=cA hz;have lz1:=Nat.lt_succ_of_lt lz;have lz2:=Nat.ne_of_lt lz;have lz3:=Nat.ne_of_lt lz1;have lz4:=lz2.symm
        have lz5:=lz3.symm)
     | (go_at_call 119;refine(SX.out (W3.alloc (.map #[] 0)).drew).mono ?_;rintro e w4 ⟨nb,im,rfl,Fv,hnm,k4⟩;dsimp only
        simp only[show ∀ v:World,v.drew.heap=v.heap from fun _=>rfl,World.size_alloc]at Fv;obtain⟨l4,l6,l5,l7⟩:=Fv;have ks:K_ W3 w4:=((dR W3 (.map #[] 0))).trans ((fw _).trans k4);have p4:C_ w4 w.heap.size 4=some (I_ cy):=ks.cell a4 id;have s4:=ks.size;have g1:w4.heap.size<w4.heap.size+1:=Nat.lt_succ_self _;have g2:w4.heap.size<w4.heap.size+1+1:=Nat.lt_succ_of_lt g1;have g3:w4.heap.size<=w4.heap.size+1:=Nat.le_succ _;have g4:¬ w4.heap.size=w4.heap.size+1:=by omega
        have g5:¬ w4.heap.size=w4.heap.size+1+1:=by omega
        have nw:w.heap.size≠w4.heap.size:=by omega
        have Us:w4.heap.size≠w.heap.size:=by omega
        have hp:=k4.heap (show((W3.alloc (.map #[] 0)).drew).heap[W3.heap.size]?=some (.map #[] 0) from cx W3 _) id)
     | (go_at_call 119;refine(SX.out (W3).drew).mono ?_;rintro e w4 ⟨nb,im,rfl,Fv,hnm,k4⟩;dsimp only
        simp only[show ∀ v:World,v.drew.heap=v.heap from fun _=>rfl,World.size_alloc]at Fv;obtain⟨l4,l6,l5,l7⟩:=Fv;have ks:K_ W3 w4:=((cq.refl (fun _=>False) W3)).trans ((fw _).trans k4);have p4:C_ w4 w.heap.size 4=some (I_ cy):=ks.cell a4 id;have s4:=ks.size;have g1:w4.heap.size<w4.heap.size+1:=Nat.lt_succ_self _;have g2:w4.heap.size<w4.heap.size+1+1:=Nat.lt_succ_of_lt g1;have g3:w4.heap.size<=w4.heap.size+1:=Nat.le_succ _;have g4:¬ w4.heap.size=w4.heap.size+1:=by omega
        have g5:¬ w4.heap.size=w4.heap.size+1+1:=by omega
        have nw:w.heap.size≠w4.heap.size:=by omega
        have Us:w4.heap.size≠w.heap.size:=by omega
        have dummy:=s4))
  all_goals
   go_wp2_with fail;go_meet
   first
    | exact AX W3 _ cy mT (w4.heap.size+1+1) (w4.heap.size+1) nb im w4.heap.size (DF w4 _ _ _).2.2.1 (DF w4 _ _ _).2.1 (DF w4 _ _ _).1 (by omega) (by omega) (by omega) (by omega) (hnm.ct (DF w4 _ _ _).2.2.2 id id) (by omega) (by omega) (by omega) (ks.trans (DF w4 _ _ _).2.2.2)
    | exact AX W3 _ cy mT (w4.heap.size+1) (w4.heap.size+1+1) nb im w4.heap.size (DF w4 _ _ _).2.1 (DF w4 _ _ _).2.2.1 (DF w4 _ _ _).1 (by omega) (by omega) (by omega) (by omega) (hnm.ct (DF w4 _ _ _).2.2.2 id id) (by omega) (by omega) (by omega) (ks.trans (DF w4 _ _ _).2.2.2)
    | exact AX W3 _ cy mT w4.heap.size (w4.heap.size+1+1) nb im (w4.heap.size+1) (DF w4 _ _ _).1 (DF w4 _ _ _).2.2.1 (DF w4 _ _ _).2.1 (by omega) (by omega) (by omega) (by omega) (hnm.ct (DF w4 _ _ _).2.2.2 id id) (by omega) (by omega) (by omega) (ks.trans (DF w4 _ _ _).2.2.2)
    | exact AX W3 _ cy mT (w4.heap.size+1) w4.heap.size nb im W3.heap.size (Ji w4 _ _).2.1 (Ji w4 _ _).1 ((Ji w4 _ _).2.2.heap hp id) (by omega) (by omega) (by omega) (by omega) (hnm.ct (Ji w4 _ _).2.2 id id) (by omega) (by omega) (by omega) (ks.trans (Ji w4 _ _).2.2)
    | exact AX W3 _ cy mT w4.heap.size (w4.heap.size+1) nb im W3.heap.size (Ji w4 _ _).1 (Ji w4 _ _).2.1 ((Ji w4 _ _).2.2.heap hp id) (by omega) (by omega) (by omega) (by omega) (hnm.ct (Ji w4 _ _).2.2 id id) (by omega) (by omega) (by omega) (ks.trans (Ji w4 _ _).2.2)
    | (have hset:=cz (i:=0) hz (cD w4.heap.size)
       have DG:cq (fun k=>k=W3.heap.size+1) w4 (w4.setCell ⟨W3.heap.size+1,0,none⟩ (cD w4.heap.size)):=cq.setCell _ _ _ (fun _=>rfl);have ka:=dR (w4.setCell ⟨W3.heap.size+1,0,none⟩ (cD w4.heap.size)) (.cells (AW nb cy mT W3.heap.size).cells 47)
       exact AX W3 _ cy mT (W3.heap.size+1) w4.heap.size nb im W3.heap.size (ka.heap hset id) (Tu w4 _ _ _) (ka.heap (DG.heap hp (fun e=>by have e:W3.heap.size=W3.heap.size+1:=e;omega)) id) (by omega) (by omega) (by omega) (by omega) ((hnm.ct DG (fun e=>by have e:nb=W3.heap.size+1:=e;omega) (fun e=>by have e:im=W3.heap.size+1:=e;omega)).ct ka id id) (by omega) (by omega) (by omega) ((ks.dW ⟨W3.heap.size+1,0,none⟩ _ (by show W3.heap.size<=W3.heap.size+1;omega)).trans ka))
    | (have hset:=cz (i:=0) hz (cD (w4.heap.size+1))
       have ka:=(dR (w4.setCell ⟨W3.heap.size,0,none⟩ (cD (w4.heap.size+1))) (.map #[] 0)).trans (dR _ (.cells (AW nb cy mT w4.heap.size).cells 47));have DG:cq (fun k=>k=W3.heap.size) w4 (w4.setCell ⟨W3.heap.size,0,none⟩ (cD (w4.heap.size+1))):=cq.setCell _ _ _ (fun _=>rfl)
       exact AX W3 _ cy mT W3.heap.size (w4.heap.size+1) nb im w4.heap.size (ka.heap hset id) (Tv w4 _ _ _ _).2 (Tv w4 _ _ _ _).1 (by omega) (by omega) (by omega) (by omega) ((hnm.ct DG (fun e=>by have e:nb=W3.heap.size:=e;omega) (fun e=>by have e:im=W3.heap.size:=e;omega)).ct ka id id) (by omega) (by omega) (by omega) ((ks.dW ⟨W3.heap.size,0,none⟩ _ (Nat.le_refl _)).trans ka))
    | (have hset:=cz (i:=0) hz (cD w4.heap.size)
       have DG:cq (fun k=>k=W3.heap.size) w4 (w4.setCell ⟨W3.heap.size,0,none⟩ (cD w4.heap.size)):=cq.setCell _ _ _ (fun _=>rfl);have ka:=dR (w4.setCell ⟨W3.heap.size,0,none⟩ (cD w4.heap.size)) (.cells (AW nb cy mT (W3.heap.size+1)).cells 47)
       exact AX W3 _ cy mT W3.heap.size w4.heap.size nb im (W3.heap.size+1) (ka.heap hset id) (Tu w4 _ _ _) (ka.heap (DG.heap hp (fun e=>by have e:W3.heap.size+1=W3.heap.size:=e;omega)) id) (by omega) (by omega) (by omega) (by omega) ((hnm.ct DG (fun e=>by have e:nb=W3.heap.size:=e;omega) (fun e=>by have e:im=W3.heap.size:=e;omega)).ct ka id id) (by omega) (by omega) (by omega) ((ks.dW ⟨W3.heap.size,0,none⟩ _ (Nat.le_refl _)).trans ka))
 case rest =>
  obtain⟨mb,nb,im,pb,qK,rfl,h11,hmc,hpb,l1,l2,l3,l4,⟨hnm,WR,WS,WT⟩,kc⟩:=hcut
  have tN:=h_ (show(nb≠pb/\im≠pb)/\(nb≠mb/\im≠mb)/\(nb≠b/\im≠b)/\(nb≠bb/\im≠bb)/\(nb<wc.heap.size/\im<wc.heap.size)/\w.heap.size<=nb/\w.heap.size<=im from by
   have q1:nb≠pb:=fun e=>cX.jt hpb _ _ _ (by rw[<- e];exact hnm.1);have q2:nb≠mb:=yo hnm.1 hmc rfl;have q3:im≠mb:=fun e=>by have h1:=hnm.2;rw[e]at h1;exact nomatch (hmc.symm.trans h1)
   have q4:=cA hnm.1;have q5:=cA hnm.2;have h2:=QI.out;have h3:=QH.out
   omega)
  have Ty:=h_ hnm;clear hnm WR WS WT;have HB:=h_ (show Ur w.heap.size (w.heap.size+1) (w.heap.size+1+1) (w.heap.size+1+1+1) x9 qK mb b dV data ret hz cy wc by rw[<- hs0];exact⟨kc.heap X2.out id,kc.heap X6.out id,kc.heap X7.out id,kc.heap X8.out id,kc.heap X9.out id,h11⟩);have U2:=h_ hmc;have VH:=h_ hpb;have HM:=h_ (M2.out.ct kc id id);have HK:=h_ (K2.out.trans kc);have qa:=cA h11;have hmp:mb≠pb:=fun e=>cX.jt hpb _ _ _ (e ▸ hmc);have hxp:qK≠pb:=fun e=>cX.jt hpb _ _ _ (e ▸ h11);have WU:=cA hmc;have WV:=hpb.lt;have HL:=h_ (And.intro (And.intro l1 l2) (And.intro l3 l4));clear h11 hmc hpb kc X2 X6 X7 X8 X9 M2 K2 a4 U1 SX l1 l2 l3 l4;go_wp2_with fail;refine(wJ wc).mono ?_;rintro e w4 ⟨bS,rfl,fS,U3,VI,hbS,kS⟩;have h4:=kS.size;have HG:=h_ VI;have VJ:=h_ U3;have WW:=U3.lt;have Ut:=h_ kS;clear VI U3 kS
  go_wp2_with (first
   | (at_range;refine kK sk _ rfl _ 235 rfl _ underlying235 bS 500 fS rfl VJ.out ?_;intro w5 Sa hrg0 hk0)
   | go_in)
  go_frame
  have SY:=h_ hrg0;have Sb:=h_ hk0;clear hrg0 hk0
  go_loopw [91] (fun _ wr=>∃ (left:List UInt8->Bool) (cnt m:Nat) (g:Int->Option Value),iJ sk wr bS w4.heap.size 500 fS left cnt/\m+cnt<=500/\cX ik wr pb m g/\(∀ s,(fS s).isSome=true->left s=false->g (num s)=fS s)/\(∀ k,(∀ s,(fS s).isSome=true->num s≠k)->g k=none)/\cq (fun k=>k=pb\/k=w4.heap.size) w5 wr) (fun _ wr=>wr.rangeLeft bS w4.heap.size)
  case atStart =>
   refine⟨_,Sa,0,_,SY.out,by have:=SY.out.yO;omega,(VH.out.ct Ut.out id).ct Sb.out id,fun s h1 h2=>?_,fun _ _=>rfl,cq.refl _ _⟩;have h2:(fS s).isSome=false:=h2;rw[h1]at h2;cases h2
  case round =>
   obtain⟨left,cnt,m,g,hrg,Ya,hpm,hgl,hgn,hk⟩:=hrel;have VK:=h_ hgn;have HR:=h_ hrg;have HP:=h_ hpm;have Tz:=h_ hgl;have TA:=h_ hk;clear hrg hpm hgl hgn hk
   go_wp2_with (first
    | (at_next;refine kL sk _ rfl _ rfl bS w4.heap.size 500 fS left cnt rfl HR.out ?_ ?_)
    | go_in)
   . intro hl
     have VL:=h_ hl;clear hl;have KW:=h_ (((Ut.out.trans Sb.out).mono (T:=fun k=>k=pb) (fun _ _ e=>e.elim)).dh TA.out (fun i hi e=>by rcases e with e | e;exact e;omega));have WX:=TA.out.size;have hsz5:=Sb.out.size
     have DH:=h_ (show Does (fun g=>wc.heap.size<=g/\g<w4.heap.size) wr pb from by
      refine⟨m,g,by omega,HP.out,fun s kd hs=>?_,fun k hk=>VK.out k (fun s hs=>hk s (by
       have hg:=HG.out s;cases hks:ky s with
       | none=>rw[hks]at hg;rw[hg]at hs;cases hs
       | some kd=>rfl))⟩
      have hg:=HG.out s;rw[hs]at hg;obtain⟨v,h1,h2⟩:=hg;have hsn:=tX s (by rw[hs];simp);have hok:sk.ok s:=by
       have:∀ s ∈ names,s.length<=1000:=by decide +kernel
       exact Nat.le_trans (this s hsn) (by unfold maxLen;omega)
      refine⟨v,by rw[Tz.out s (by rw[h1];rfl) (VL.out s hok),h1],?_⟩;refine(h2.mono (Y:=fun g=>wc.heap.size<=g/\g<w4.heap.size) (fun g hg hx=>⟨hx,hg⟩)).ct ?_
      exact je.of ((Sb.out.mono (T:=fun k=>k=pb\/k=w4.heap.size) (fun _ _ e=>e.elim)).trans TA.out) (fun g hg e=>by have:=hg.1;have:=hg.2;rcases e with e | e <;> omega))
     have BB:=h_ (HB.out.ct KW.out (fun k hk e=>by
      have e:k=pb:=e;have h1:=HL.out;have h2:=QI.out;have h3:=QH.out
      rcases hk with h | h | h | h | h | h <;> omega))
     have MM:=h_ (HM.out.ct KW.out (fun e=>by have e:b=pb:=e;have h1:=HL.out;have h2:=QI.out;have h3:=QH.out;omega) (fun e=>by have e:bb=pb:=e;have h1:=HL.out;have h2:=QI.out;have h3:=QH.out;omega));have CC:=h_ (U2.out.ct KW.out (fun e=>hmp e));have NM:=h_ (Ty.out.ct KW.out (fun e=>tN.out.1.1 e) (fun e=>tN.out.1.2 e));have KK:=h_ ((HK.out.mono (T:=fun k=>k=pb) (fun _ _ e=>e.elim)).trans KW.out);clear VL Tz HG VJ HP HR TA KW HB HM U2 HK Ut Sb VH SY Ty;have U4:wc.heap.size<=w4.heap.size/\w4.heap.size<=wr.heap.size:=⟨h4,by omega⟩;have zK:=zK;have WY:C_ wr qK 0=some (cD mb):=cp BB.out.Pp rfl;go_wp2_with fail;change Code.wp _ _ _ _ (wr.alloc (.cells (Pq w.heap.size (w.heap.size+1) (w.heap.size+1+1) (w.heap.size+1+1+1) x9 qK mb) 80));have HN:=h_ (And.intro (And.intro hs0 hs1) (And.intro (And.intro hb1 hb2) (And.intro hs2 hbl)));have SL:=h_ (cx wr (.cells (Pq w.heap.size (w.heap.size+1) (w.heap.size+1+1) (w.heap.size+1+1+1) x9 qK mb) 80));have ka:=dR wr (.cells (Pq w.heap.size (w.heap.size+1) (w.heap.size+1+1) (w.heap.size+1+1+1) x9 qK mb) 80);obtain⟨gp,RB⟩:∃ gp,gp=wr.heap.size:=⟨_,rfl⟩;rw[<- RB]at SL |-;generalize wr.alloc (.cells (Pq w.heap.size (w.heap.size+1) (w.heap.size+1+1) (w.heap.size+1+1+1) x9 qK mb) 80)=V at SL ka |-;have hvs:=ka.size;have Yb:=cA SL.out;have VE:=h_ RB;replace BB:=h_ (BB.out.ct ka (fun _ _=>id));replace MM:=h_ (MM.out.ct ka id id);replace CC:=h_ (CC.out.ct ka id);replace NM:=h_ (NM.out.ct ka id id);replace DH:=h_ (DH.out.ct ka id (fun _ _=>id));have hbx:∀ k,(k=w.heap.size\/k=w.heap.size+1\/k=w.heap.size+1+1\/k=w.heap.size+1+1+1\/k=x9\/k=qK)->k≠mb/\k≠bb/\k<wr.heap.size:=fun k hk=>by
      have h1:=HL.out;have h2:=QI.out;have h3:=QH.out;rcases hk with h | h | h | h | h | h <;> omega
     have U5:mb≠bb/\mb≠b/\mb≠gp/\bb≠gp/\w.heap.size<=mb/\w.heap.size<=pb/\w.heap.size<=b/\w.heap.size<=bb:=by
      have h1:=HL.out;have h2:=QI.out;have h3:=QH.out;omega
     have hbp:bb≠pb:=by
      have h1:=HL.out;have h2:=QI.out;have h3:=QH.out;omega
     have WZ:b<wc.heap.size/\bb<wc.heap.size:=by
      have h1:=HL.out;have h2:=QI.out;have h3:=QH.out;omega
     have rV:=h_ hbx;have pQ:=h_ U5;have hbne:=MM.out.ne;have VN:K_ w V:=(KK.out.dh (ka.mono (T:=fun k=>k=pb) (fun _ _ e=>e.elim)) (fun i hi e=>e)).mono (fun i hi e=>by have e:i=pb:=e;omega);replace KK:=h_ VN;clear VN ka RB hbx hs0 hs1 hb1 hb2 hs2 hbl U4;refine wp_loop_rounds 7 ?_;rw[rounds_succ];have cc:C_ V gp 0=some (.func (.func 122) #[] #[Pt x9,Pt (w.heap.size+1+1+1),Pt w.heap.size,Pt qK]):=cp SL.out rfl;go_wp2_with fail;refine(Pg V mb b bb _ _ (dV+data*8+ret*8) dV data ret hz cy _ _ _ _ CC.out MM.out (cp BB.out.r9 rfl) (cp BB.out.r8 rfl) BB.out.r2 (cp BB.out.Pp rfl) (by omega) (by omega) hm U0 (by show _<=((dV+data*8+ret*8+hz).toNat:Int);omega) (by rw[put]) pQ.out.1 pQ.out.2.1 (rV.out _ (by simp)).2.1 (rV.out _ (by simp)).2.1 (rV.out _ (by simp)).2.1 (rV.out _ (by simp)).2.1 (rV.out _ (by simp)).1 (rV.out _ (by simp)).1 (rV.out _ (by simp)).1 (rV.out _ (by simp)).1).mono ?_;rintro e V1 ⟨hb,rfl,r1,q1,l1,k1⟩;rw[put]at q1;have AZ:=k1.heap SL.out (fun e=>by rcases e with e | e;exact pQ.out.2.2.1 e.symm;exact pQ.out.2.2.2.1 e.symm);have A6:=BB.out.ct k1 (fun k hk e=>by have:=rV.out k hk;rcases e with e | e;exact this.1 e;exact this.2.1 e);have A7:=DH.out.ct k1 (fun e=>by rcases e with e | e;exact hmp e.symm;exact hbp e.symm) (fun g hg e=>by rcases e with e | e <;> omega);have hNM:=NM.out.ct k1 (fun e=>by have LR:=tN.out;have h1:=pQ.out;rcases e with e | e <;> omega) (fun e=>by have LR:=tN.out;have h1:=pQ.out;rcases e with e | e <;> omega);have A':K_ w V1:=KK.out.dh k1 (fun i hi e=>by have:=pQ.out;rcases e with e | e <;> omega);have hs1:=k1.size;have Yc:=cA q1.head;replace SL:=h_ AZ;replace BB:=h_ A6;replace DH:=h_ A7;replace NM:=h_ hNM;replace KK:=h_ A';have R1:=h_ r1;have Q1:=h_ q1;clear AZ A6 A7 hNM A' r1 q1 k1 cc MM CC;have htop:=Q1.out.uE;have hgb:=pQ.out;go_wp2_with fail;rw[rounds_succ];have cc:C_ V1 gp 1=some (.func (.func 124) #[] #[Pt x9,Pt (w.heap.size+1),Pt w.heap.size,Pt qK]):=cp SL.out rfl;go_wp2_with fail;refine(Ph V1 mb b bb _ _ dV dV data ret hz cy _ _ _ _ R1.out Q1.out.mem (cp BB.out.r9 rfl) (cp BB.out.r6 rfl) BB.out.r2 (cp BB.out.Pp rfl) (by omega) dm t0 (by omega) (by omega) (rV.out _ (by simp)).1 (rV.out _ (by simp)).1 (rV.out _ (by simp)).1 (rV.out _ (by simp)).1).mono ?_;rintro e V2 ⟨db,rfl,r2,sd,l2,k2⟩;have AZ:=k2.heap SL.out (fun e=>by have h1:=pQ.out;have e:gp=mb:=e;omega);have A6:=BB.out.ct k2 (fun k hk e=>by have h1:=rV.out k hk;have e:k=mb:=e;omega);have A7:=DH.out.ct k2 (fun e=>by have e:pb=mb:=e;omega) (fun g hg e=>by have e:g=mb:=e;omega);have hNM:=NM.out.ct k2 (fun e=>by have LR:=tN.out;have e:nb=mb:=e;omega) (fun e=>by have LR:=tN.out;have e:im=mb:=e;omega);have A':K_ w V2:=KK.out.dh k2 (fun i hi e=>by have h1:=pQ.out;have e:i=mb:=e;omega);have VO:=k2.size;have Yd:=cA sd.head;have Q2:=h_ (Q1.out.ct k2 (fun e=>by have e:hb=mb:=e;omega) (fun e=>pQ.out.2.1 (by have e:b=mb:=e;exact e.symm)) (fun e=>pQ.out.1 (by have e:bb=mb:=e;exact e.symm)));replace SL:=h_ AZ;replace BB:=h_ A6;replace DH:=h_ A7;replace NM:=h_ hNM;replace KK:=h_ A';have R2:=h_ r2;have SD:=h_ sd;clear AZ A6 A7 hNM A' r2 sd k2 cc R1 Q1;go_wp2_with fail;rw[rounds_succ];have cc:C_ V2 gp 2=some (.func (.func 126) #[] #[Pt x9,Pt (w.heap.size+1+1),Pt w.heap.size,Pt qK]):=cp SL.out rfl;go_wp2_with fail;refine(Pj V2 mb b bb _ _ (dV+data*8) dV data ret hz cy _ _ _ _ R2.out Q2.out.mem (cp BB.out.r9 rfl) (cp BB.out.r7 rfl) BB.out.r2 (cp BB.out.Pp rfl) (by omega) (by omega) r0 (by omega) (by omega) (rV.out _ (by simp)).1 (rV.out _ (by simp)).1 (rV.out _ (by simp)).1 (rV.out _ (by simp)).1).mono ?_;rintro e V3 ⟨rb,rfl,r3,sr,l3,k3⟩;have AZ:=k3.heap SL.out (fun e=>by have h1:=pQ.out;have e:gp=mb:=e;omega);have A6:=BB.out.ct k3 (fun k hk e=>by have h1:=rV.out k hk;have e:k=mb:=e;omega);have A7:=DH.out.ct k3 (fun e=>by have e:pb=mb:=e;omega) (fun g hg e=>by have e:g=mb:=e;omega)
     have hNM:=NM.out.ct k3 (fun e=>by have LR:=tN.out;have e:nb=mb:=e;omega) (fun e=>by have LR:=tN.out;have e:im=mb:=e;omega);have A':K_ w V3:=KK.out.dh k3 (fun i hi e=>by have h1:=pQ.out;have e:i=mb:=e;omega);have VP:=k3.size;have hh3:=cA sr.head;have Q3:=h_ (Q2.out.ct k3 (fun e=>by have e:hb=mb:=e;omega) (fun e=>pQ.out.2.1 (by have e:b=mb:=e;exact e.symm)) (fun e=>pQ.out.1 (by have e:bb=mb:=e;exact e.symm)));have SD3:=h_ (SD.out.ct k3 (fun e=>by have e:db=mb:=e;omega));replace SL:=h_ AZ;replace BB:=h_ A6;replace DH:=h_ A7;replace NM:=h_ hNM;replace KK:=h_ A';have R3:=h_ r3;have SR:=h_ sr;clear AZ A6 A7 hNM A' r3 sr k3 cc R2 Q2 SD;go_wp2_with fail;rw[rounds_succ];have cc:C_ V3 gp 3=some (.func (.func 127) #[] #[Pt x9,Pt w.heap.size,Pt qK]):=cp SL.out rfl;go_wp2_with fail;refine(Pm V3 mb b bb _ _ dV data ret hz cy _ _ _ R3.out Q3.out.mem (cp BB.out.r9 rfl) BB.out.r2 (cp BB.out.Pp rfl) d8 (by omega) (rV.out _ (by simp)).1 (rV.out _ (by simp)).1 (rV.out _ (by simp)).1).mono ?_;rintro e V4 ⟨s,rfl,r4,sp,l4,k4⟩;have AZ:=k4.heap SL.out (fun e=>by have h1:=pQ.out;have e:gp=mb:=e;omega);have A6:=BB.out.ct k4 (fun k hk e=>by have h1:=rV.out k hk;have e:k=mb:=e;omega);have A7:=DH.out.ct k4 (fun e=>by have e:pb=mb:=e;omega) (fun g hg e=>by have e:g=mb:=e;omega);have hNM:=NM.out.ct k4 (fun e=>by have LR:=tN.out;have e:nb=mb:=e;omega) (fun e=>by have LR:=tN.out;have e:im=mb:=e;omega);have A':K_ w V4:=KK.out.dh k4 (fun i hi e=>by have h1:=pQ.out;have e:i=mb:=e;omega);have VQ:=k4.size;have Ye:=cA sp.head;have Q4:=h_ (k4.heap Q3.out.head (fun e=>by have e:hb=mb:=e;omega));have SD4:=h_ (SD3.out.ct k4 (fun e=>by have e:db=mb:=e;omega));have VR:=h_ (SR.out.ct k4 (fun e=>by have e:rb=mb:=e;omega));replace SL:=h_ AZ;replace BB:=h_ A6;replace DH:=h_ A7;replace NM:=h_ hNM;replace KK:=h_ A';have R4:=h_ r4;have SP:=h_ sp;clear AZ A6 A7 hNM A' r4 sp k4 cc R3 Q3 SD3 SR;go_wp2_with fail;rw[rounds_succ];have cc:C_ V4 gp 4=some (.func (.func 129) #[] #[Pt qK]):=cp SL.out rfl;go_wp2_with fail;refine(Pn V4 mb s b bb _ _ _ _ _ R4.out rfl SP.out rt (cp BB.out.Pp rfl) (by omega) pQ.out.2.1 pQ.out.1 (by have:=(rV.out qK (by simp)).2.2;omega) (rV.out _ (by simp)).2.1 (rV.out _ (by simp)).1).mono ?_;rintro e V5 ⟨rfl,r5,sp,k5⟩;have AZ:=k5.heap SL.out (fun e=>by have h1:=pQ.out;rcases e with e | e | e <;> omega);have A6:=BB.out.ct k5 (fun k hk e=>by have h1:=rV.out k hk;rcases e with e | e | e <;> omega);have A7:=DH.out.ct k5 (fun e=>by rcases e with e | e | e <;> omega) (fun g hg e=>by rcases e with e | e | e <;> omega);have hNM:=NM.out.ct k5 (fun e=>by have LR:=tN.out;have h1:=pQ.out;rcases e with e | e | e <;> omega) (fun e=>by have LR:=tN.out;have h1:=pQ.out;rcases e with e | e | e <;> omega);have A':K_ w V5:=KK.out.dh k5 (fun i hi e=>by have h1:=pQ.out;rcases e with e | e | e <;> omega);have VS:=k5.size;have Q5:=h_ (k5.heap Q4.out (fun e=>by rcases e with e | e | e <;> omega));have VT:=h_ (SD4.out.ct k5 (fun e=>by rcases e with e | e | e <;> omega));have VU:=h_ (VR.out.ct k5 (fun e=>by rcases e with e | e | e <;> omega));replace SL:=h_ AZ;replace BB:=h_ A6;replace DH:=h_ A7;replace NM:=h_ hNM;replace KK:=h_ A';have R5:=h_ r5;replace SP:=h_ sp;clear AZ A6 A7 hNM A' r5 sp k5 cc R4 Q4 SD4 VR;go_wp2_with fail;rw[rounds_succ];have cc:C_ V5 gp 5=some (.func (.func 131) #[Pt mb] #[]):=cp SL.out rfl;go_wp2_with fail;refine(LH V5 mb s b bb _ _ _ _ _ _ R5.out rfl SP.out pr (by omega) pQ.out.2.1 pQ.out.1).mono ?_;rintro e V6 ⟨rfl,r6,sp,k6⟩;have AZ:=k6.heap SL.out (fun e=>by have h1:=pQ.out;rcases e with e | e | e <;> omega);have A6:=BB.out.ct k6 (fun k hk e=>by have h1:=rV.out k hk;rcases e with e | e | e <;> omega);have A7:=DH.out.ct k6 (fun e=>by rcases e with e | e | e <;> omega) (fun g hg e=>by rcases e with e | e | e <;> omega);have hNM:=NM.out.ct k6 (fun e=>by have LR:=tN.out;have h1:=pQ.out;rcases e with e | e | e <;> omega) (fun e=>by have LR:=tN.out;have h1:=pQ.out;rcases e with e | e | e <;> omega)
     have A':K_ w V6:=KK.out.dh k6 (fun i hi e=>by have h1:=pQ.out;rcases e with e | e | e <;> omega);have VV:=k6.size;have Q6:=h_ (k6.heap Q5.out (fun e=>by rcases e with e | e | e <;> omega));have W0:=h_ (VT.out.ct k6 (fun e=>by rcases e with e | e | e <;> omega));have W4:=h_ (VU.out.ct k6 (fun e=>by rcases e with e | e | e <;> omega));replace SL:=h_ AZ;replace BB:=h_ A6;replace DH:=h_ A7;replace NM:=h_ hNM;replace KK:=h_ A';have R6:=h_ r6;replace SP:=h_ sp;clear AZ A6 A7 hNM A' r6 sp k6 cc R5 Q5 VT VU;go_wp2_with fail;rw[rounds_succ];have Ts:C_ V6 qK 0=some (cD mb):=cp BB.out.Pp rfl;go_wp2_with fail;go_ret2;refine⟨mb,nb,pb,s,b,bb,db,rb,hb,wc.heap.size,w4.heap.size,rfl,R6.out,SP.out,W0.out,W4.out,Q6.out,DH.out,?_,?_,h4,?_,?_,?_,?_,hmp,pQ.out.2.1,pQ.out.1,hbne,KK.out,im,NM.out,⟨tN.out.2.2.2.2.2.1,tN.out.2.2.2.2.2.2⟩,tN.out.2.2.2.2.1,tN.out.2.1,tN.out.1,tN.out.2.2.1,tN.out.2.2.2.1⟩
     . exact pQ.out.2.2.2.2
     all_goals omega
   . intro x v w6 cnt1 hok hlx hfx hrg1 hlt hg1 hen
     have hr:=HR.out.sV;have HR1:=h_ hrg1;have W6:=h_ (HP.out.ct hg1 (fun e=>by have e:pb=w4.heap.size:=e;omega));have TB:=h_ (TA.out.trans (hg1.mono (T:=fun k=>k=pb\/k=w4.heap.size) (fun _ _ e=>.inr e)));have U6:=((Ut.out.trans Sb.out).mono (T:=fun k=>k=pb) (fun _ _ e=>e.elim)).dh TB.out (fun i hi e=>by rcases e with e | e;exact e;omega);have U7:=h_ hfx;have Ts:C_ w6 qK 0=some (cD mb):=cp (U6.heap HB.out.Pp hxp) rfl;have Uu:C_ w6 mb 17=some (.map (some pb)):=cp (U6.heap U2.out hmp) rfl;change (Instr.entry (cD w4.heap.size)).run prog w6=.ok (.tuple #[S_ x,v]) w6 at hen;rw[show sk.val x=Value.string ⟨x.toArray⟩ from rfl];have hnk:=RY x;have W7:=h_ hnk;clear hrg1 hg1 hfx hok hlx hnk U6;go_wp2_with fail
     go_region_held3 (fun w'=>C_ w' qK 0=some (cD mb)/\C_ w' mb 17=some (.map (some pb)))
      (first | go_keep | exact⟨k8.cell VW hxp,k8.cell VX hmp⟩)
      (first
        | (go_at_call 121;refine(uI x w6.drew).mono ?_;rintro e w7 ⟨rfl,k7⟩;dsimp only
           have k7:=(fw w6).trans k7;have VW:=k7.cell Ts id;have VX:=k7.cell Uu id;obtain⟨w8,hrun,TC,k8⟩:=Ft ik 45 _ underlying45 (W6.out.ct k7 id) (by unfold maxLen;omega) (num x) W7.out v
           have hrun:(Instr.mapUpdate 45 (.map (some pb)) (I_ (num x)) v).run prog w7=.ok () w8:=hrun))
     have TD:=h_ ((HR1.out.ct k7 id id).ct k8 (fun e=>by have e:bS=pb:=e;omega) (fun e=>by have e:w4.heap.size=pb:=e;omega));have U8:=h_ TC;have U9:=h_ ((TB.out.trans (k7.mono (T:=fun k=>k=pb\/k=w4.heap.size) (fun _ _ e=>e.elim))).trans (k8.mono (T:=fun k=>k=pb\/k=w4.heap.size) (fun _ _ e=>.inl e)))
     have W8:=h_ (show ∀ s,(fS s).isSome=true->(left s && !decide (s=x))=false->ny g (num x) v (num s)=fS s from by
      intro s h1 h2
      have hin:∀ s,(fS s).isSome=true->s ∈ names:=fun s hs=>tX s (fun e=>by
       have:=HG.out s;rw[e]at this;rw[this]at hs
       cases hs)
      unfold ny;by_cases e:s=x
      . rw[if_pos (by rw[e]),e,U7.out]
      . rw[if_neg (fun e'=>e (OS (hin s h1) (hin x (by rw[U7.out];rfl)) e'))]
        refine Tz.out s h1 ?_
        simpa[e] using h2)
     have Xa:=h_ (show ∀ k,(∀ s,(fS s).isSome=true->num s≠k)->ny g (num x) v k=none from by
      intro k hk;unfold ny;rw[if_neg (fun e=>hk x (by rw[U7.out];rfl) e.symm)]
      exact VK.out k hk)
     clear TC k8 k7 hrun VW VX Ts Uu hen;go_wp2_with fail;go_roundw;case rel=>exact⟨_,cnt1,m+1,_,TD.out,by omega,U8.out,W8.out,Xa.out,U9.out⟩
     case measure=>rw[TD.out.left_eq,HR.out.left_eq];exact hlt
theorem DI{x b:Sp}{a:Int}(c:x.cu % 8=0)(h:Class.root x=(b,a,0)):x.cN 0=(b,0)/\a=x.cu:=by
 have d:x.align=(x,0):=by
  show Sp.fD (7+1) x=_;rw[Sp.fD,if_pos c]
 unfold Class.root at h;rw[d]at h;rw[if_neg (show ¬ ((0:Int)≠0) from fun e=>e rfl)]at h;split at h
 . rename_i e
   injection h with h1 h2;injection h2 with h3 h4;exact absurd h4 e
 . rename_i e
   injection h with h1 h2;injection h2 with h3 h4;exact⟨Prod.ext h1 (by simpa using e),h3.symm⟩
theorem DJ(w:World)(a b c d:Obj):((((w.alloc a).alloc b).alloc c).alloc d).heap[w.heap.size]?=some a/\((((w.alloc a).alloc b).alloc c).alloc d).heap[w.heap.size+1]?=some b /\
 ((((w.alloc a).alloc b).alloc c).alloc d).heap[w.heap.size+1+1]?=some c/\((((w.alloc a).alloc b).alloc c).alloc d).heap[w.heap.size+1+1+1]?=some d/\K_ w ((((w.alloc a).alloc b).alloc c).alloc d):=by
 have l:=dR w a;have j:=dR (w.alloc a) b;have f:=dR ((w.alloc a).alloc b) c;have e:=dR (((w.alloc a).alloc b).alloc c) d;have k:=cx w a;have g:=cx (w.alloc a) b;have h:=cx ((w.alloc a).alloc b) c;have i:=cx (((w.alloc a).alloc b).alloc c) d;rw[show(w.alloc a).heap.size=w.heap.size+1 by simp]at g;rw[show((w.alloc a).alloc b).heap.size=w.heap.size+1+1 by simp]at h;rw[show(((w.alloc a).alloc b).alloc c).heap.size=w.heap.size+1+1+1 by simp]at i;exact⟨e.heap (f.heap (j.heap k id) id) id,e.heap (f.heap g id) id,e.heap h id,i,((l.trans j).trans f).trans e⟩
def VY(w:World)(d b:Nat)(ew gm dL under:Int):Prop:=w.heap[d]?=some (.cells #[cD b,I_ ew,I_ gm,I_ 0,I_ dL,I_ under] 251 (0,0))
theorem Pr(w:World)(a d h j ai:Int)(z:List UInt8)(l:Mem)(x1 y:Sp)(aa D J E:Int)(ok:AY a d h j l x1 y aa D J E) :
 Calls prog 72 #[I_ a,I_ d,I_ h,I_ j,S_ z] w fun e w'=>∃ (r f:Nat) (c:Rc),e=.returned (.tuple #[cD r,I_ 0])/\vl w' r c/\lY w' c.ss c.ms f y /\
  VY w' c.ds c.ms a d (-3) (-4)/\VY w' c.rs c.ms (a+d*8) h (-5) (-6)/\c.root=aa/\c.dD=D/\c.cV=E/\c.cF=J/\c.mT=z/\w.heap.size<=r/\K_ w w':=by
 obtain⟨d8,dm,t0,r0,ah,hm,aj,A,rt,pr⟩:=ok;obtain⟨af,X⟩:=DI (x:=⟨l,8,a,8⟩) rfl rt;dsimp only at X;subst X;obtain⟨N,v⟩:∃ N:Nat,(N:Int)=a+d*8+h*8+j:=⟨(a+d*8+h*8+j).toNat,by omega⟩;rw[<- v,Int.toNat_natCast]at A;obtain⟨F,hF⟩:∃ F:Int,F=a+8*d+8*h:=⟨_,rfl⟩;have u:a+d*8+h*8=F:=by omega
 rw[u]at A v;have a5:F+j=(N:Int):=v.symm;have a6:¬ (1048576:Int)<(N:Int):=by omega
 have HM:=fun V=>Rb V N (by omega);have mn:∀ V,(Builtin.min_ #[2,2] 2 #[I_ 8,I_ a]).run prog V=.ok (I_ 8) V:=by
  intro V;show Result.ok (Value.int .i64 (if a<8 then a else 8)) V=_;rw[if_neg (by omega)]
 go_enter func72,ntmps72;go_upto_region 2 with fail;have ab:a+8*d+8*h=F:=hF.symm;rw[ab];clear hF;have q1:a+8*d=F-8*h:=by omega
 have A5:=a5;have b0:8<=F:=by omega
 have b1:F<=1048576:=by omega
 clear q1 v;go_wp2_with fail;refine(HM _).mono ?_;rintro e w1 ⟨b,f,rfl,r1,O,P,Z⟩;have G1:=And.intro O P;have HR:=(GN w1 b f (Mem.zero N) F N r1 (by omega) (by have:=u;omega) (by have:=u;omega) (Int.le_refl _) (by omega));have HN:=(JU w1 b f (Mem.zero N) F N r1 (by omega) (Int.le_refl _) (by omega));clear O;go_wp2_with fail;refine eD HR ?_;go_wp2_with fail;refine HN.mono ?_;rintro e B ⟨Q,rfl,K,P,k2⟩;have U:((Mem.zero N).setCell F ((N:Int)-F)).1=l:=by
  have:=congrArg Prod.fst A;rw[show(N:Int)-F=j from by omega];exact this
 rw[U]at K;clear U;go_wp2_with fail;refine(Hv B).mono ?_;rintro e n ⟨m,nc,rfl,o3,g3,H⟩;have C:=K.ct H id id;go_wp2_with fail
 obtain⟨o,q,s,p,k⟩:=DJ n (.cells (Rc.cells ⟨b,n.heap.size+1+1+1,n.heap.size+1,n.heap.size+1+1,Q,m,nc,0,0,0,0,z⟩) 163)
  (.cells #[cD b,I_ a,I_ d,I_ 0,I_ (-3),I_ (-4)] 251)
  (.cells #[cD b,I_ (a+8*d),I_ h,I_ 0,I_ (-5),I_ (-6)] 251)
  (.cells #[cD b,I_ 8,I_ a,I_ 8] 158)
 unfold Rc.cells at o q s p k;dsimp only at o q s p k;generalize World.alloc (World.alloc (World.alloc (World.alloc n _) _) _) _=W at o q s p k |-;obtain⟨g,S⟩:∃ g,g=n.heap.size:=⟨_,rfl⟩;rw[<- S]at o q s p |-;have ad:=C.lt;have hx:m<n.heap.size:=o3.lt rfl;have ag:B.heap.size<=m:=g3;have ac:b<B.heap.size/\f<B.heap.size:=K.lt;have ae:=C.ne;have G:(Heap.put (Mem.zero N) ⟨F,j,false⟩).1.size=(Mem.zero N).size:=Mem.cQ _ _ _;rw[A]at G;have Y:a<=(l.size:Int):=by
  have h1:l.size=N:=G;rw[h1];have:=u;have:=A5;omega
 have L:lY W (g+1+1+1) b f ⟨l,8,a,8⟩:=⟨p,C.ct k id id,by omega,by omega,Int.le_of_lt (show(0:Int)<8 from by decide),Int.le_refl _,d8,Y⟩;have HF:=(LM W g (g+1+1+1) b f ⟨b,g+1+1+1,g+1,g+1+1,Q,m,nc,0,0,0,0,z⟩ ⟨l,8,a,8⟩ x1 y D J E o rfl L af pr (o3.ct k (fun _ _=>id)) (by omega) (by omega) (by omega) (show m≠g+1+1+1 by omega) (show m≠g by omega) (show m≠f by omega));have T:w.heap.size<=g:=by have:=Z.size;have:=k2.size;have:=H.size;omega
 have R:=G1;have KW:=(((Z.dh k2 (fun i hi e=>by have e:i=f:=e;omega)).trans H).trans k);have t:=(show b<g/\f<g/\w.heap.size<=g/\w.heap.size<=f from⟨by omega,by omega,T,R.2⟩);clear o p k L T R G Y ag ac hx ad ae;refine HF.mono ?_;rintro e w5 ⟨rfl,c5,r5,I⟩;go_wp2;go_ret2;have S1:=I.heap q (fun e=>by have:=t;rcases e with e | e | e <;> omega);have M:=I.heap s (fun e=>by have:=t;rcases e with e | e | e <;> omega);rw[show a+8*d=a+d*8 by omega]at M;exact⟨g,f,_,(by subst S;rfl),c5,r5,S1,M,rfl,rfl,rfl,rfl,rfl,t.2.2.1,KW.dh I (fun i hi e=>by have:=t;rcases e with e | e | e <;> omega)⟩
theorem LU(w:World)(x bb:Nat)(c:Rc)(y:Sp)(b:Bool)(cy:Int)(hc:vl w x c)(hs:lY w c.ss c.ms bb y) :
 Calls prog 159 #[cD x,.bool b,I_ cy] w fun e w'=>∃ g:Nat,e=.returned (cD g)/\K_ w w':=by
 have HW:=fun V (k:K_ w V)=>JS V c.ms bb y.mem c.cF (hs.mem.ct k id id);have c0:C_ w x 0=some (cD c.ms):=cp hc rfl;have c12:C_ w x 12=some (I_ c.cF):=hc.c12;have HC:=fun V (k:K_ w V)=>(show C_ V x 0=some (cD c.ms)/\C_ V x 12=some (I_ c.cF) from⟨k.cell c0 id,k.cell c12 id⟩);generalize c.cF=l at *;generalize c.ms=ms at *;clear hc hs;have kA:=(dR w (.cells #[I_ l] 2)).trans (cq.drew _ _);have kD:=fw w;obtain⟨d0,d12⟩:=HC _ kD;obtain⟨a0,a12⟩:=HC _ kA;go_enter func159,ntmps159;go_upto_region 1 with fail
 go_cut [6] (fun v6 wx=>∃ g:Nat,v6=cD g/\K_ w wx)
 case first =>
  go_region_held3 (fun V=>C_ V x 0=some (cD ms)/\C_ V x 12=some (I_ l))
   (first | exact⟨d0,d12⟩ | exact⟨a0,a12⟩ | exact HC _ kc | (go_keep;done))
   (first
     | (go_at_call 258;refine(HW w.drew kD).mono ?_;rintro e w3 ⟨sa,sn,sc,rfl,k3⟩;dsimp only;have kc:=kD.trans k3)
     | (go_at_call 258;refine(HW (w.alloc (.cells #[I_ l] 2)).drew kA).mono ?_;rintro e w3 ⟨sa,sn,sc,rfl,k3⟩;dsimp only;have kc:=kA.trans k3))
  all_goals
   go_wp2;go_meet;refine⟨_,rfl,?_⟩
   first
    | exact kc.trans (cq.alloc _ _ _)
    | exact kc.trans ((dR _ _).trans (cq.alloc _ _ _))
 case rest =>
  obtain⟨g,rfl,kr⟩:=hcut;go_wp2;go_ret;exact⟨_,rfl,kr⟩
structure Cm(X:Nat->Prop)(w:World)(mb s b bb db rb:Nat)(c:Mc)(x:Sp)(d r:dK):Prop where
 mc:iD w mb c
 RP:c.sp=some s
 RR:c.dk=some db
 RU:c.rk=some rb
 sp:gR w s b bb x
 dk:Yq w db b d
 rk:Yq w rb b r
 mB:Does X w c.mB
 nx:∀ g,X g->g≠mb/\g≠s/\g≠bb/\g≠db/\g≠rb
 ne:(mb≠s/\mb≠b/\mb≠bb/\mb≠db/\mb≠rb)/\(db≠s/\db≠b/\db≠bb/\db≠rb)/\(rb≠s/\rb≠b/\rb≠bb)/\(c.mB≠mb/\c.mB≠s/\c.mB≠bb/\c.mB≠db/\c.mB≠rb)
theorem Cm.ct{X S:Nat->Prop}{w w':World}{f s b a e i:Nat}{c:Mc}{x:Sp}{d r:dK}(h:Cm X w f s b a e i c x d r)(k:cq S w w')(n:¬ S f/\¬ S s/\¬ S b/\¬ S a/\¬ S e/\¬ S i/\¬ S c.mB)(j:∀ g,X g->¬ S g):Cm X w' f s b a e i c x d r :=
 ⟨h.mc.ct k n.1,h.RP,h.RR,h.RU,h.sp.ct k n.2.1 n.2.2.1 n.2.2.2.1,h.dk.ct k n.2.2.2.2.1,h.rk.ct k n.2.2.2.2.2.1,h.mB.ct k n.2.2.2.2.2.2 j,h.nx,h.ne⟩
theorem Cm.cL{X:Nat->Prop}{w w':World}{f s b a e g:Nat}{c:Mc}{x:Sp}{d r:dK}(h:Cm X w f s b a e g c x d r)(k:K_ w w'):Cm X w' f s b a e g c x d r :=
 h.ct k ⟨id,id,id,id,id,id,id⟩ (fun _ _=>id)
theorem Cm.qs{X:Nat->Prop}{w w':World}{f s b i j t:Nat}{c a:Mc}{x:Sp}{d r:dK}(h:Cm X w f s b i j t c x d r)(k:cq (fun g=>g=f) w w')(u:iD w' f a)(e:a.sp=c.sp/\a.dk=c.dk/\a.rk=c.rk/\a.mB=c.mB):Cm X w' f s b i j t a x d r:=by
 obtain⟨⟨l,m,n,o,p⟩,y,z,q⟩:=h.ne
 exact⟨u,e.1.trans h.RP,e.2.1.trans h.RR,e.2.2.1.trans h.RU,h.sp.ct k (fun e=>l e.symm) (fun e=>m e.symm) (fun e=>n e.symm),h.dk.ct k (fun e=>o e.symm),h.rk.ct k (fun e=>p e.symm),by rw[e.2.2.2];exact h.mB.ct k q.1 (fun g v e=>(h.nx g v).1 e),h.nx,
  ⟨⟨l,m,n,o,p⟩,y,z,by rw[e.2.2.2];exact q⟩⟩
theorem Cm.AV{X:Nat->Prop}{w w':World}{o s b f a t:Nat}{c:Mc}{x:Sp}{d i r:dK}(h:Cm X w o s b f a t c x d r)(k:cq (fun g=>g=a) w w')(u:Yq w' a b i):Cm X w' o s b f a t c x i r:=by
 obtain⟨⟨y,z,A,p,B⟩,⟨j,l,m,n⟩,C,q⟩:=h.ne;exact⟨h.mc.ct k (fun e=>p e),h.RP,h.RR,h.RU,h.sp.ct k (fun e=>j e.symm) (fun e=>l e.symm) (fun e=>m e.symm),u,h.rk.ct k (fun e=>n e.symm),h.mB.ct k q.2.2.2.1 (fun g v e=>(h.nx g v).2.2.2.1 e),h.nx,⟨⟨y,z,A,p,B⟩,⟨j,l,m,n⟩,C,q⟩⟩
end Go.Proofs.dS
