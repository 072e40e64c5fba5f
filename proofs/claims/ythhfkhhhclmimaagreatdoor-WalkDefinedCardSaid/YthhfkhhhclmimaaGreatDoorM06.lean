/- A part of WalkG. No condition. -/
import Derived.Test.YthhfkhhhclmimaaGreatDoorM04
set_option linter.unusedVariables false
set_option linter.unusedSimpArgs false
open Go.Proofs.Tryz
set_option maxRecDepth 10000
set_option maxHeartbeats 1000000
namespace Go.Proofs.dS
open Go Go.RowKit Go.Proofs.K
theorem JV(n:Int):u64 (wrap64 n)=u64 n:=by unfold u64 wrap64;omega
theorem Mem.yL(m:Mem)(a n:Int):m.setCell a (wrap64 n)=m.setCell a n:=by unfold Mem.setCell;rw[JV]
def dj.UL(m:Mem)(p:Int)(x:jz):Mem:=((((m.setCell p x.cZ).1).setCell (p+8) x.xt).1.setCell (p+16) x.j7).1
theorem Ox(w:World)(b j:Nat)(m:Mem)(t:Int)(x:jz)(h:dY w b j m) :
 Calls prog 389 #[cD b,I_ t,x.val] w (gV b j (dj.put m t x) w):=by
 have H:=h_ h;have av:=h.le;have aq:=h.lt;clear h;have I:=dj.lg m t;obtain⟨al,am⟩:=dj.iL m t;obtain⟨ab,V⟩:=dj.mF m t x.cZ;have hP:=fun w H=>sh w b j m t x.cZ H;have hS:=fun w H=>sf w b j m t H;have s:Hid (dj.put m t x=if x.cZ<1\/dj.cy m t=0 then(m,-256)else if(dj.ek m t x.cZ).1<0 then(m,-2051)else(dj.UL (dj.ox m t (dj.ek m t x.cZ).1) (dj.pos t (dj.ek m t x.cZ).1) x,0)):=rfl;generalize dj.put m t x=r at s |-;generalize dj.cy m t=n at I al am V hS s;generalize dj.ek m t x.cZ=q at ab V hP s;obtain⟨d,f,g⟩:=x;obtain⟨i,c⟩:=q;have F:=h_ hP;have Y:=h_ hS;clear hP hS;simp only at ab V s F;unfold yI at F;unfold jz.val;by_cases h1:d<1
 . have o:=s.out
   rw[if_pos (.inl h1)]at o;subst o;clear s I;go_enter func389,ntmps389;go_wp2_with fail;refine(F.out _ (by exact H.out.dC _)).mono ?_;rintro e E ⟨rfl,l⟩;have a:E.heap[w.heap.size]?=some (.cells #[I_ d,I_ f,I_ g] 279 (0,0)):=l.heap (cx _ _) id;have G:=cp (i:=0) a rfl;have v:=h_ ((H.out.dC (.cells #[I_ d,I_ f,I_ g] 279)).ct l id id);have z:=h_ (((dR w (.cells #[I_ d,I_ f,I_ g] 279)).trans l).mono (T:=fun k=>k=j) (fun _ _ e=>e.elim));clear a l;go_wp2;go_ret;exact⟨rfl,v.out,z.out⟩
 . have ao:1<=d:=by omega
   by_cases S:n=0
   . have o:=s.out
     rw[if_pos (.inr S)]at o;subst o;subst S;clear s I;go_enter func389,ntmps389;go_wp2_with fail;refine(F.out _ (by exact H.out.dC _)).mono ?_;rintro e E ⟨rfl,l⟩;have a:E.heap[w.heap.size]?=some (.cells #[I_ d,I_ f,I_ g] 279 (0,0)):=l.heap (cx _ _) id;have G:=cp (i:=0) a rfl;have v:=h_ ((H.out.dC (.cells #[I_ d,I_ f,I_ g] 279)).ct l id id);have z:=h_ (((dR w (.cells #[I_ d,I_ f,I_ g] 279)).trans l).mono (T:=fun k=>k=j) (fun _ _ e=>e.elim));clear a l;go_wp2_with fail;refine eD (Y.out _ v.out) ?_;go_wp2;go_ret;exact⟨rfl,v.out,z.out⟩
   . have ap:((n:Int) == 0)=false:=by simp[S]
     by_cases h3:i<0
     . have o:=s.out
       rw[if_neg (by omega),if_pos h3]at o;subst o;clear s I;go_enter func389,ntmps389;go_wp2_with fail;refine(F.out _ (by exact H.out.dC _)).mono ?_;rintro e E ⟨rfl,l⟩;have a:E.heap[w.heap.size]?=some (.cells #[I_ d,I_ f,I_ g] 279 (0,0)):=l.heap (cx _ _) id;have G:=cp (i:=0) a rfl;have v:=h_ ((H.out.dC (.cells #[I_ d,I_ f,I_ g] 279)).ct l id id);have z:=h_ (((dR w (.cells #[I_ d,I_ f,I_ g] 279)).trans l).mono (T:=fun k=>k=j) (fun _ _ e=>e.elim));clear a l;go_wp2_with fail;refine eD (Y.out _ v.out) ?_;go_wp2;go_ret;exact⟨rfl,v.out,z.out⟩
     . have ad:0<=i:=by omega
       have o:=s.out;rw[if_neg (by omega),if_neg h3]at o;obtain⟨t0,t1,t2⟩:=I (by omega);clear s I h1 S h3 ab;have au:i<n:=by omega
       clear V;have aa:=fun w=>JK w t i (by omega) (by omega) ad (by omega);have ac:=fun w H=>uH w b j m t i H (by omega) (by omega) ad (by omega);have ag:0<=dj.pos t i/\dj.pos t i+24<=m.size:=by unfold dj.pos;omega
       have U:dj.ox m t i=if(dj.cT m t i).cZ=0 then(m.setCell (t+8) ((m.cell (t+8)).1+1)).1 else m:=rfl;generalize dj.pos t i=p at aa ag o;generalize dj.ox m t i=m1 at U o;generalize dj.cT m t i=y at ac U;obtain⟨R,y2,y3⟩:=y;obtain⟨aw,ax⟩:=ag;have HA:=h_ aa;have HX:=h_ ac;have HR:=h_ o;have HB:=h_ U;have ar:∀ w,(Instr.field 279 (.agg #[I_ R,I_ y2,I_ y3]) 0).run prog w=.ok (I_ R) w:=fun w=>by kernel_rfl
       clear aa ac o U;go_enter func389,ntmps389;go_wp2_with fail;refine(F.out _ (by exact H.out.dC _)).mono ?_;rintro e E ⟨rfl,l⟩;have a:E.heap[w.heap.size]?=some (.cells #[I_ d,I_ f,I_ g] 279 (0,0)):=l.heap (cx _ _) id;have G:=cp (i:=0) a rfl;have v:=h_ ((H.out.dC (.cells #[I_ d,I_ f,I_ g] 279)).ct l id id);have z:=h_ (((dR w (.cells #[I_ d,I_ f,I_ g] 279)).trans l).mono (T:=fun k=>k=j) (fun _ _ e=>e.elim));have ah:=h_ a;clear a l;go_wp2_with fail;refine eD (Y.out _ v.out) ?_;go_wp2_with fail;refine eD (HA.out _) ?_;go_wp2_with fail;refine(HX.out _ v.out).mono ?_;rintro e w2 ⟨rfl,W⟩;have a:=W.heap ah.out id;have M2:=h_ (v.out.ct W id id);have K2:=h_ (z.out.trans (W.mono (T:=fun k=>k=j) (fun _ _ e=>e.elim)));clear W G;unfold jz.val;by_cases M:R=0
       . have an:(R == 0)=true:=by simp[M]
         have B:=HB.out;rw[if_pos M]at B;have ae:=h_ (eu w2 b j m (t+8) M2.out);have af:=m.fh (t+8);generalize m.cell (t+8)=q8 at ae B af;obtain⟨v8,e8⟩:=q8;have aj:=h_ B;have ai:=h_ a;clear B M a;simp only at af;go_wp2_with fail;refine eD ae.out ?_;go_wp2_with fail;refine(ed _ b j m (t+8) _ M2.out).mono ?_;rintro e u ⟨rfl,X,k3⟩;have a:=k3.heap ai.out (fun e=>by omega);have J:Hid (dY u b j m1):=by
          rw[aj.out]
          first
           | exact X
           | (rw[Mem.yL]at X;exact X)
         have KZ:=h_ (K2.out.trans k3);clear X k3;have G:=cp (i:=0) a rfl;have c1:=cp (i:=1) a rfl;have c2:=cp (i:=2) a rfl;have ak:w.heap.size<u.heap.size:=cA a;have hz:j<u.heap.size:=J.out.lt.2;clear a;go_wp2_with fail;have K:(u.alloc (.cells #[I_ d,I_ f,I_ g] 2)).heap[u.heap.size]?=some (.cells #[I_ d,I_ f,I_ g] 2 (0,0)):=cx _ _;have M3:=h_ (J.out.dC (.cells #[I_ d,I_ f,I_ g] 2));have Z:=h_ (KZ.out.trans (cq.alloc _ _ (.cells #[I_ d,I_ f,I_ g] 2)));refine wp_loop_rounds 4 ?_;rw[rounds_succ];go_wp2_with fail;refine(ed _ b j m1 p d M3.out).mono ?_;rintro e w4 ⟨rfl,O,C⟩;have A:=C.heap K (by omega);have g1:=cp (i:=1) A rfl;have M4:=h_ O;have K4:=h_ (Z.out.trans C);clear O C K;go_wp2_with fail;rw[rounds_succ];go_wp2_with fail;refine(ed _ b j _ (p+8) f M4.out).mono ?_;rintro e w5 ⟨rfl,P,D⟩;have L:=D.heap A (by omega);have g2:=cp (i:=2) L rfl;have M5:=h_ P;have K5:=h_ (K4.out.trans D);clear P D A g1;go_wp2_with fail;rw[rounds_succ];go_wp2_with fail;refine(ed _ b j _ (p+16) g M5.out).mono ?_;rintro e w6 ⟨rfl,Q,N⟩;have M6:=h_ Q;have K6:=h_ (K5.out.trans N);clear Q N L g2;go_wp2_with fail;rw[rounds_succ];go_wp2;go_ret;rw[HR.out];exact⟨rfl,M6.out,K6.out⟩
       . have an:(R == 0)=false:=by simp[M]
         have B:=HB.out;rw[if_neg M]at B;subst B;obtain⟨u,rfl⟩:∃ u,u=w2:=⟨_,rfl⟩;have J:=M2;have KZ:=K2;have G:=cp (i:=0) a rfl;have c1:=cp (i:=1) a rfl;have c2:=cp (i:=2) a rfl;have ak:w.heap.size<u.heap.size:=cA a;have hz:j<u.heap.size:=J.out.lt.2;clear a;go_wp2_with fail;have K:(u.alloc (.cells #[I_ d,I_ f,I_ g] 2)).heap[u.heap.size]?=some (.cells #[I_ d,I_ f,I_ g] 2 (0,0)):=cx _ _;have M3:=h_ (J.out.dC (.cells #[I_ d,I_ f,I_ g] 2));have Z:=h_ (KZ.out.trans (cq.alloc _ _ (.cells #[I_ d,I_ f,I_ g] 2)));refine wp_loop_rounds 4 ?_;rw[rounds_succ];go_wp2_with fail;refine(ed _ b j m1 p d M3.out).mono ?_;rintro e w4 ⟨rfl,O,C⟩;have A:=C.heap K (by omega);have g1:=cp (i:=1) A rfl;have M4:=h_ O;have K4:=h_ (Z.out.trans C);clear O C K;go_wp2_with fail;rw[rounds_succ];go_wp2_with fail;refine(ed _ b j _ (p+8) f M4.out).mono ?_;rintro e w5 ⟨rfl,P,D⟩;have L:=D.heap A (by omega);have g2:=cp (i:=2) L rfl;have M5:=h_ P;have K5:=h_ (K4.out.trans D);clear P D A g1;go_wp2_with fail;rw[rounds_succ];go_wp2_with fail;refine(ed _ b j _ (p+16) g M5.out).mono ?_;rintro e w6 ⟨rfl,Q,N⟩;have M6:=h_ Q;have K6:=h_ (K5.out.trans N);clear Q N L g2;go_wp2_with fail;rw[rounds_succ];go_wp2;go_ret;rw[HR.out];exact⟨rfl,M6.out,K6.out⟩
def ko(s b bb:Nat)(r:Sp × Int × Int)(w:World)(e:Ending)(w':World):Prop :=
 e=.returned (.tuple #[I_ r.2.1,I_ r.2.2])/\gR w' s b bb r.1/\cq (fun k=>k=s\/k=bb) w w'
theorem ET(w:World)(s b B:Nat)(x:Sp)(n:Int)(h:gR w s b B x) :
 Calls prog 422 #[cD s,I_ n] w (ko s b B (dj.new x n) w):=by
 have H:=h_ h;clear h
 have v:Hid (dj.new x n=if n<1\/1024<n then(x,0,-256)
  else if x.align.2≠0 then((x.align.1.fN x.cu).1,0,x.align.2)
  else if(dj.kj n (2+n*3).toNat 0 x.align.1).2≠0 then(((dj.kj n (2+n*3).toNat 0 x.align.1).1.fN x.cu).1,0,(dj.kj n (2+n*3).toNat 0 x.align.1).2)
  else((dj.kj n (2+n*3).toNat 0 x.align.1).1,x.align.1.cu,0)):=rfl
 generalize dj.new x n=r at v |-;by_cases p:n<1\/1024<n
 . have a:=v.out
   rw[if_pos p]at a;subst a;have Z:n<1\/(1<=n/\1024<n):=by omega
   clear v p;rcases Z with p | ⟨p,h2⟩;all_goals
    go_enter func422,ntmps422;go_wp2;go_ret2;exact⟨rfl,H.out,cq.refl _ _⟩
 . have a:=v.out
   rw[if_neg p]at a;have d:1<=n:=by omega
   have f:n<=1024:=by omega
   clear v p;have O:=h_ (lC w s b B x H.out);have ae:=x.cu;generalize x.align=q at O a;obtain⟨y,e⟩:=q;simp only at a;have E:=h_ a;clear a;go_enter func422,ntmps422;go_wp2_with fail;refine eD (eJ _ _ _ _ _ H.out) ?_;go_wp2_with fail;refine O.out.mono ?_;rintro X w1 ⟨rfl,U,T⟩;have J:=h_ U;have N:=h_ T;clear U T;go_wp2_with fail;refine(eJ _ _ _ _ _ J.out).mono ?_;rintro X I ⟨rfl,rfl⟩;by_cases t:e=0
   . have a:=E.out
     rw[if_neg (by simp[t])]at a;have M:=h_ a;clear a E;subst t;go_wp2_with fail
     go_loopw [7,9] (fun Y L wr=>∃ (i:Int) (z:Sp) (c:Int),0<=i/\i<=2+n*3/\L=I_ i/\Y=I_ c/\gR wr s b B z/\cq (fun k=>k=s\/k=B) w wr/\(c=0->dj.kj n (2+n*3).toNat 0 y=dj.kj n (2+n*3-i).toNat i z)/\(c≠0->dj.kj n (2+n*3).toNat 0 y=(z,c)))
      (fun _ L _=>(2+n*3-intOf L).toNat)
     case atStart=>exact⟨0,y,0,Int.le_refl _,by omega,rfl,rfl,J.out,N.out,fun _=>by rw[Int.sub_zero],fun h=>absurd rfl h⟩
     case round =>
      obtain⟨i,z,c,ai,aj,rfl,rfl,S,R,P,Q⟩:=hrel;have G:=h_ S;have D:=h_ R;have V:=h_ P;have W:=h_ Q;clear S R P Q;by_cases j:c=0
      . have aa:(c == 0)=true:=by simp[j]
        have ab:(c != 0)=false:=by simp[j]
        have C:=V.out j;clear j;by_cases ad:i<2+n*3
        . have g:dj.kj n (2+n*3-i).toNat i z=if(z.cN (if i=0 then n else 0)).2≠0 then z.cN (if i=0 then n else 0)else dj.kj n (2+n*3-(i+1)).toNat (i+1) (z.cN (if i=0 then n else 0)).1:=by
           rw[show(2+n*3-i).toNat=(2+n*3-(i+1)).toNat+1 by omega,dj.kj]
          have F:=h_ (C.trans g);clear C g;by_cases u:i=0
          . have g:=F.out
            rw[if_pos u]at g;have A:=h_ g;have ac:(i == 0)=true:=by simp[u]
            clear g F u;go_wp2_with fail;refine(eP _ _ _ _ _ _ G.out).mono ?_;rintro K I ⟨rfl,d,f⟩;have m:=h_ d;have o:=h_ (D.out.trans f);clear d f;go_wp2;go_roundw;case rel=>exact⟨i+1,_,_,by omega,by omega,rfl,rfl,m.out,o.out,fun h=>by rw[A.out,if_neg (by simp[h])],fun h=>by rw[A.out,if_pos h]⟩
            case measure=>simp[intOf];omega
          . have g:=F.out
            rw[if_neg u]at g;have A:=h_ g;have ac:(i == 0)=false:=by simp[u]
            clear g F u;go_wp2_with fail;refine(eP _ _ _ _ _ _ G.out).mono ?_;rintro K I ⟨rfl,d,f⟩;have m:=h_ d;have o:=h_ (D.out.trans f);clear d f;go_wp2;go_roundw;case rel=>exact⟨i+1,_,_,by omega,by omega,rfl,rfl,m.out,o.out,fun h=>by rw[A.out,if_neg (by simp[h])],fun h=>by rw[A.out,if_pos h]⟩
            case measure=>simp[intOf];omega
        . rw[show(2+n*3-i).toNat=0 by omega,dj.kj]at C
          have a:=M.out;rw[C,if_neg (by simp)]at a;have l:=h_ a;have ah:2+n*3<=i:=by omega
          clear C a;go_wp2;go_ret2;exact⟨by rw[l.out];rfl,by rw[l.out];exact G.out,D.out⟩
      . have aa:(c == 0)=false:=by simp[j]
        have ab:(c != 0)=true:=by simp[j]
        have a:=M.out;rw[W.out j,if_pos j]at a;have l:=h_ a;clear a j;by_cases ad:i<2+n*3;all_goals
         go_wp2_with fail;refine(qR _ _ _ _ _ _ G.out).mono ?_;rintro K I ⟨rfl,d,f⟩;have m:=h_ d;have o:=h_ (D.out.trans f);clear d f;go_wp2;go_ret2;exact⟨by rw[l.out];rfl,by rw[l.out];exact m.out,o.out⟩
   . have a:=E.out
     rw[if_pos t]at a;have l:=h_ a;have af:(e == 0)=false:=by simp[t]
     have ag:(e != 0)=true:=by simp[t]
     have ak:(0:Int)<2+n*3:=by omega
     clear a E t;go_wp2_with fail;refine wp_loop_rounds 1 ?_;rw[rounds_succ];go_wp2_with fail;refine(qR _ _ _ _ _ _ J.out).mono ?_;rintro K I ⟨rfl,d,f⟩;have m:=h_ d;have o:=h_ (N.out.trans f);clear d f;go_wp2;go_ret2;exact⟨by rw[l.out];rfl,by rw[l.out];exact m.out,o.out⟩
theorem gR.uM{w w':World}{s b a:Nat}{x:Sp}(h:gR w s b a x){m:Mem}(c:dY w' b a m)(d:m.size=x.mem.size)(k:cq (fun j=>j=a) w w'):gR w' s b a ⟨m,x.lo,x.to,x.cu⟩:=h.dI c d k
theorem JW(w:World)(s b d:Nat)(x:Sp)(t:Int)(h:gR w s b d x) :
 Calls prog 423 #[cD s,I_ t] w (ko s b d (dj.copy x t) w):=by
 have G:=h.c0;have v:=h_ (sf w b d x.mem t h.mem);have z:=dj.iL x.mem t
 have a:Hid (dj.copy x t=if(dj.new x (dj.cy x.mem t)).2.2≠0 then((dj.new x (dj.cy x.mem t)).1,0,(dj.new x (dj.cy x.mem t)).2.2)
  else({ (dj.new x (dj.cy x.mem t)).1 with mem:=((dj.new x (dj.cy x.mem t)).1.mem.cS (dj.new x (dj.cy x.mem t)).2.1 ((dj.new x (dj.cy x.mem t)).1.mem.dJ t ((2+dj.cy x.mem t*3)*8)).1).1 },
   (dj.new x (dj.cy x.mem t)).2.1,((dj.new x (dj.cy x.mem t)).1.mem.cS (dj.new x (dj.cy x.mem t)).2.1 ((dj.new x (dj.cy x.mem t)).1.mem.dJ t ((2+dj.cy x.mem t*3)*8)).1).2)):=rfl
 generalize dj.copy x t=r at a |-;generalize dj.cy x.mem t=n at v z a;obtain⟨M,N⟩:=z;have j:=h_ (ET w s b d x n h);generalize dj.new x n=q at j a;obtain⟨y,u,e⟩:=q;simp only at a;unfold ko at j;simp only at j;go_enter func423,ntmps423;go_wp2_with fail;refine v.out.mono ?_;rintro o D ⟨rfl,rfl⟩;go_wp2_with fail;refine j.out.mono ?_;rintro o D ⟨rfl,i,B⟩;have J:=i.c0;have L:=i.f 0;clear G;by_cases g:e=0
 . have c:=a.out
   rw[if_neg (by simpa using g)]at c;have H:(e != 0)=false:=by simp[g]
   have m:=h_ (uG D b d y.mem t ((2+n*3)*8) i.mem);have A:(y.mem.dJ t ((2+n*3)*8)).1.length<=9223372036854775807:=by
    unfold Mem.dJ;split
    . rw[gK];omega
    . simp
   generalize y.mem.dJ t ((2+n*3)*8)=q at m c A;obtain⟨l,K⟩:=q;clear a g;unfold JH at m;simp only at m;go_wp2_with fail;refine m.out.mono ?_;rintro o I ⟨rfl,rfl⟩;go_wp2_with fail;refine(oJ _ b d y.mem u l i.mem A).mono ?_;rintro o I ⟨rfl,C,p⟩;have F:=i.uM C (Mem.eh _ _ _) p;have E:=B.trans (p.mono (T:=fun k=>k=s\/k=d) (fun _ _ e=>.inr e));clear C p;go_wp2;go_ret2;exact⟨by rw[c];rfl,by rw[c];exact F,E⟩
 . have c:=a.out
   rw[if_pos g]at c;have H:(e != 0)=true:=by simp[g]
   clear a g;go_wp2;go_ret2;exact⟨by rw[c];rfl,by rw[c];exact i,B⟩
theorem CP(w:World)(s b i:Nat)(x:Sp)(h:gR w s b i x) :
 Calls prog 130 #[cD s] w (ko s b i (Class.root x) w):=by
 have H:=h_ h;clear h
 have d:Hid (Class.root x=if x.align.2≠0 then(x.align.1,0,x.align.2)
  else if(x.align.1.cN 0).2≠0 then((x.align.1.cN 0).1,0,(x.align.1.cN 0).2)
  else((x.align.1.cN 0).1,x.align.1.cu,0)):=rfl
 generalize Class.root x=r at d |-;have t:=h_ (lC w s b i x H.out);generalize x.align=q at t d;obtain⟨y,e⟩:=q;simp only at d;go_enter func130,ntmps130;go_wp2_with fail;refine t.out.mono ?_;rintro p F ⟨rfl,B,v⟩;have j:=h_ B;have m:=h_ v;clear B v;by_cases f:e=0
 . have a:=d.out
   rw[if_neg (by simpa using f)]at a;have D:(e != 0)=false:=by simp[f]
   have u:=h_ (eP F s b i y 0 j.out);generalize y.cN 0=q at u a;obtain⟨z,k⟩:=q;simp only at a;have l:=h_ a;clear a d f;go_wp2_with fail;refine(eJ _ _ _ _ _ j.out).mono ?_;rintro p G ⟨rfl,rfl⟩;go_wp2_with fail;refine u.out.mono ?_;rintro p G ⟨rfl,C,A⟩;have o:=h_ C;have n:=h_ (m.out.trans A);clear C A;by_cases g:k=0
   . have a:=l.out
     rw[if_neg (by simpa using g)]at a;have E:(k != 0)=false:=by simp[g]
     have c:=h_ a;clear a g;go_wp2;go_ret2;exact⟨by rw[c.out];rfl,by rw[c.out];exact o.out,n.out⟩
   . have a:=l.out
     rw[if_pos g]at a;have E:(k != 0)=true:=by simp[g]
     have c:=h_ a;clear a g;go_wp2;go_ret2;exact⟨by rw[c.out];rfl,by rw[c.out];exact o.out,n.out⟩
 . have a:=d.out
   rw[if_pos f]at a;have D:(e != 0)=true:=by simp[f]
   have c:=h_ a;clear a f d;go_wp2;go_ret2;exact⟨by rw[c.out];rfl,by rw[c.out];exact j.out,m.out⟩
def gJ.val(c:gJ):Value:=.agg #[I_ c.cM,I_ c.cE,I_ c.size,I_ c.table,I_ c.iB]
def pT(r:gJ × Bool):Ending:=.returned (.tuple #[r.1.val,.bool r.2])
theorem iW(w:World)(b s:Nat)(m:Mem)(a:Int)(h:dY w b s m)(af : -9223372036854775808<=a)(ag:a<=9223372036854775807) :
 Calls prog 177 #[cD b,I_ a] w fun e w'=>e=pT (Class.cT m a)/\K_ w w':=by
 have ah:=h.le
 have d:Hid (Class.cT m a=if(m.cell a).2≠0\/(m.cell (a+8)).2≠0\/(m.cell (a+16)).2≠0\/(m.cell (a+24)).2≠0\/(m.cell (a+32)).2≠0 then(⟨0,0,0,0,0⟩,false)
  else(⟨a,(m.cell (a+8)).1,(m.cell (a+16)).1,(m.cell (a+24)).1,(m.cell (a+32)).1⟩,decide ((m.cell a).1=357694784579))):=rfl
 generalize Class.cT m a=r at d |-;have o:(m.cell a).2=0->0<=a/\a<=4194304:=by
  intro o;unfold Mem.cell at o;split at o
  . rename_i n
    rw[Mem.dX]at n;omega
  . rename_i n;exact absurd o n
 have C:=h_ fun w h=>eu w b s m a h;have D:=h_ fun w h=>eu w b s m (a+8) h;have E:=h_ fun w h=>eu w b s m (a+16) h;have n:=h_ fun w h=>eu w b s m (a+24) h;have F:=h_ fun w h=>eu w b s m (a+32) h;generalize m.cell a=X at C d o;generalize m.cell (a+8)=Y at D d;generalize m.cell (a+16)=Z at E d;generalize m.cell (a+24)=q3 at n d;generalize m.cell (a+32)=q4 at F d;obtain⟨q,G⟩:=X;obtain⟨g,H⟩:=Y;obtain⟨j,I⟩:=Z;obtain⟨k,J⟩:=q3;obtain⟨l,K⟩:=q4;simp only at d o C D E n F;go_enter func177,ntmps177;go_wp2_with fail;refine wp_loop_rounds 6 ?_;rw[rounds_succ];go_wp2_with fail;refine eD (C.out _ (by exact(h.dC _).dC _)) ?_;by_cases x:G=0
 . have M:(G != 0)=false:=by simp[x]
   obtain⟨z1,z2⟩:=o x;go_wp2_with fail;rw[rounds_succ];go_wp2_with fail;refine eD (D.out _ (by exact(h.dC _).dC _)) ?_;by_cases y:H=0
   . have N:(H != 0)=false:=by simp[y]
     go_wp2_with fail;rw[rounds_succ];go_wp2_with fail;refine eD (E.out _ (by exact(h.dC _).dC _)) ?_;by_cases z:I=0
     . have O:(I != 0)=false:=by simp[z]
       go_wp2_with fail;rw[rounds_succ];go_wp2_with fail;refine eD (n.out _ (by exact(h.dC _).dC _)) ?_;by_cases A:J=0
       . have P:(J != 0)=false:=by simp[A]
         go_wp2_with fail;rw[rounds_succ];go_wp2_with fail;refine eD (F.out _ (by exact(h.dC _).dC _)) ?_;by_cases B:K=0
         . have Q:(K != 0)=false:=by simp[B]
           go_wp2_with fail;rw[rounds_succ];go_wp2_with fail;have f:((w.alloc (.cells #[I_ 0,I_ 0,I_ 0,I_ 0,I_ 0] 214)).alloc (.cells #[I_ q,I_ g,I_ j,I_ k,I_ l] 345)).heap[w.heap.size]?=some (.cells #[I_ 0,I_ 0,I_ 0,I_ 0,I_ 0] 214 (0,0)):=(dp _ _ (by simp)).trans (cx _ _);have p:((w.alloc (.cells #[I_ 0,I_ 0,I_ 0,I_ 0,I_ 0] 214)).alloc (.cells #[I_ q,I_ g,I_ j,I_ k,I_ l] 345)).heap[w.heap.size+1]?=some (.cells #[I_ q,I_ g,I_ j,I_ k,I_ l] 345 (0,0)):=by
            have:=cx (w.alloc (.cells #[I_ 0,I_ 0,I_ 0,I_ 0,I_ 0] 214)) (.cells #[I_ q,I_ g,I_ j,I_ k,I_ l] 345);rw[World.size_alloc]at this;exact this
           have L:=(dR w (.cells #[I_ 0,I_ 0,I_ 0,I_ 0,I_ 0] 214)).trans (dR _ (.cells #[I_ q,I_ g,I_ j,I_ k,I_ l] 345));generalize (w.alloc (.cells #[I_ 0,I_ 0,I_ 0,I_ 0,I_ 0] 214)).alloc (.cells #[I_ q,I_ g,I_ j,I_ k,I_ l] 345)=wv at f p L |-;have a0:=cp (i:=0) f rfl;have a1:=cp (i:=1) f rfl;have a2:=cp (i:=2) f rfl;have a3:=cp (i:=3) f rfl;have a4:=cp (i:=4) f rfl;have t:=fun i=>cB (i:=i) f;have aa:=t 0;have ab:=t 1;have ac:=t 2;have ad:=t 3;have ae:=t 4;have d0:=cp (i:=0) p rfl;have d1:=cp (i:=1) p rfl;have d2:=cp (i:=2) p rfl;have d3:=cp (i:=3) p rfl;have d4:=cp (i:=4) p rfl;have u:=cz (i:=4) (cz (i:=3) (cz (i:=2) (cz (i:=1) (cz (i:=0) f (I_ a)) (I_ g)) (I_ j)) (I_ k)) (I_ l);have S:=cp (i:=0) u rfl;have T:=cp (i:=1) u rfl;have U:=cp (i:=2) u rfl;have V:=cp (i:=3) u rfl;have W:=cp (i:=4) u rfl;have R:=((((L.dW ⟨w.heap.size,0,none⟩ (I_ a) (Nat.le_refl _)).dW ⟨w.heap.size,1,none⟩ (I_ g) (Nat.le_refl _)).dW ⟨w.heap.size,2,none⟩ (I_ j) (Nat.le_refl _)).dW ⟨w.heap.size,3,none⟩ (I_ k) (Nat.le_refl _)).dW ⟨w.heap.size,4,none⟩ (I_ l) (Nat.le_refl _);clear t f p u;clear C D E n F o M N O P Q;go_region
           go_wp2_with fail;have d:=d;have c:=d.out;rw[if_neg (by simp[x,y,z,A,B])]at c;subst c;exact bodyPost_ret (v:=.tuple #[.agg #[I_ a,I_ g,I_ j,I_ k,I_ l],.bool (q == 357694784579)]) (by simp[results,results177,go_sem,S,T,U,V,W]) rfl ⟨rfl,R.trans (cq.drew _ _)⟩
         . have Q:(K != 0)=true:=by simp[B]
           have c:=d.out;rw[if_pos (by simp[B])]at c;subst c;go_wp2;exact bodyPost_ret (v:=.tuple #[.agg #[I_ 0,I_ 0,I_ 0,I_ 0,I_ 0],.bool false]) (by simp[results,results177,go_sem]) rfl ⟨rfl,(cq.alloc _ _ _).trans (cq.alloc _ _ _)⟩
       . have P:(J != 0)=true:=by simp[A]
         have c:=d.out;rw[if_pos (by simp[A])]at c;subst c;go_wp2;exact bodyPost_ret (v:=.tuple #[.agg #[I_ 0,I_ 0,I_ 0,I_ 0,I_ 0],.bool false]) (by simp[results,results177,go_sem]) rfl ⟨rfl,(cq.alloc _ _ _).trans (cq.alloc _ _ _)⟩
     . have O:(I != 0)=true:=by simp[z]
       have c:=d.out;rw[if_pos (by simp[z])]at c;subst c;go_wp2;exact bodyPost_ret (v:=.tuple #[.agg #[I_ 0,I_ 0,I_ 0,I_ 0,I_ 0],.bool false]) (by simp[results,results177,go_sem]) rfl ⟨rfl,(cq.alloc _ _ _).trans (cq.alloc _ _ _)⟩
   . have N:(H != 0)=true:=by simp[y]
     have c:=d.out;rw[if_pos (by simp[y])]at c;subst c;go_wp2;exact bodyPost_ret (v:=.tuple #[.agg #[I_ 0,I_ 0,I_ 0,I_ 0,I_ 0],.bool false]) (by simp[results,results177,go_sem]) rfl ⟨rfl,(cq.alloc _ _ _).trans (cq.alloc _ _ _)⟩
 . have M:(G != 0)=true:=by simp[x]
   have c:=d.out;rw[if_pos (by simp[x])]at c;subst c;go_wp2;exact bodyPost_ret (v:=.tuple #[.agg #[I_ 0,I_ 0,I_ 0,I_ 0,I_ 0],.bool false]) (by simp[results,results177,go_sem]) rfl ⟨rfl,(cq.alloc _ _ _).trans (cq.alloc _ _ _)⟩
def gJ.sU(c:gJ):Nat->Int
 | 0=>c.cM
 | 1=>c.cE
 | 2=>c.size
 | 3=>c.table
 | _=>c.iB
def gJ.cells(c:gJ):List Value:=[I_ c.cM,I_ c.cE,I_ c.size,I_ c.table,I_ c.iB]
def oy(L:List gJ):List Value:=L.flatMap gJ.cells
theorem Ai(L:List gJ):(oy L).length=L.length*5:=by
 induction L with
 | nil=>rfl
 | cons c L a=>simp[oy,gJ.cells]at *;omega
theorem JX(L M:List gJ):oy (L++M)=oy L++oy M:=by simp[oy]
theorem uN(L:List gJ)(i f:Nat)(h:i<L.length)(b:f<5):(oy L)[i*5+f]?=some (I_ (L[i].sU f)):=by
 induction L generalizing i with
 | nil=>simp at h
 | cons c L d =>
  have e:oy (c :: L)=c.cells++oy L:=rfl;rw[e];cases i with
  | zero =>
   match f,b with
   | 0,_=>rfl
   | 1,_=>rfl
   | 2,_=>rfl
   | 3,_=>rfl
   | 4,_=>rfl
  | succ i =>
   have:=d i (by simpa using h);have a:c.cells.length=5:=rfl;rw[List.getElem?_append_right (by rw[a];omega),a,show(i+1)*5+f-5=i*5+f by omega];exact this
theorem Oy{L:List gJ}{cur:List Value}(h:∀ i,(a:i<L.length)->∀ f,f<5->cur[i*5+f]?=some (I_ (L[i].sU f))):cur.take (L.length*5)=oy L:=by
 apply List.ext_getElem?;intro k;by_cases b:k<L.length*5
 . rw[List.getElem?_take_of_lt b]
   have e:k=k / 5*5+k % 5:=by omega
   have a:k / 5<L.length:=by omega
   rw[e,h _ a _ (Nat.mod_lt _ (by decide)),uN L _ _ a (Nat.mod_lt _ (by decide))]
 . rw[List.getElem?_eq_none (by simp;omega),List.getElem?_eq_none (by rw[Ai];omega)]
def mid(L:List gJ)(k p:Nat):gJ:=if p<k\/L.length<=p+k then L.getD (L.length-1-p) ⟨0,0,0,0,0⟩else L.getD p ⟨0,0,0,0,0⟩
theorem EU(w:World):Calls prog 179 #[.slice none 0 0] w fun e w'=>e=.returned (.tuple #[])/\w=w':=by
 go_enter func179,ntmps179;go_wp2;refine wp_loop_rounds 1 ?_;rw[rounds_succ];go_wp2;go_end0;exact⟨rfl,rfl⟩
def Oz(g n c:Nat)(L:List gJ)(w:World)(e:Ending)(w':World):Prop :=
 e=.returned (.tuple #[])/\(∃ cur,w'.heap[g]?=some (.cells cur 214 (0,0))/\cur.size=c*5/\∀ p,p<n->∀ f,f<5->cur[p*5+f]?=some (I_ ((mid L (n / 2) p).sU f)))/\cq (fun k=>k=g) w w'
theorem JY(L:List gJ)(k p:Nat)(c:2*(k+1)<=L.length)(a:p≠k)(b:p+k+1≠L.length):mid L (k+1) p=mid L k p:=by
 unfold mid;by_cases h:p<k\/L.length<=p+k
 . rw[if_pos (by omega),if_pos h]
 . rw[if_neg (by omega),if_neg h]
theorem JZ(L:List gJ)(k p:Nat)(a:2*(k+1)<=L.length)(h:p=k\/p+k+1=L.length):mid L (k+1) p=L.getD (L.length-1-p) ⟨0,0,0,0,0⟩/\mid L k p=L.getD p ⟨0,0,0,0,0⟩:=by
 unfold mid;rw[if_pos (by omega),if_neg (by omega)];exact⟨rfl,rfl⟩
theorem heap_drew(w:World):w.drew.heap=w.heap:=rfl
def Aj(w:World)(g o:Nat)(c:gJ):World :=
 ((((w.setCell ⟨g,o,none⟩ (I_ c.cM)).setCell ⟨g,o+1,none⟩ (I_ c.cE)).setCell ⟨g,o+2,none⟩ (I_ c.size)).setCell ⟨g,o+3,none⟩ (I_ c.table)).setCell ⟨g,o+4,none⟩ (I_ c.iB)
def J9(cur:Array Value)(o:Nat)(c:gJ):Array Value :=
 ((((cur.setIfInBounds o (I_ c.cM)).setIfInBounds (o+1) (I_ c.cE)).setIfInBounds (o+2) (I_ c.size)).setIfInBounds (o+3) (I_ c.table)).setIfInBounds (o+4) (I_ c.iB)
theorem xj{w:World}{g o:Nat}{cur:Array Value}{t:TypeId}(h:w.heap[g]?=some (.cells cur t (0,0)))(c:gJ):(Aj w g o c).heap[g]?=some (.cells (J9 cur o c) t (0,0)) :=
 cz (cz (cz (cz (cz h _) _) _) _) _
theorem uO(w:World)(g o:Nat)(c:gJ):cq (fun k=>k=g) w (Aj w g o c):=by
 have k:=fun (w:World) (i:Nat) (v:Value)=>cq.setCell (S:=fun k=>k=g) w ⟨g,i,none⟩ v (fun _=>rfl);unfold Aj;exact((((k _ _ _).trans (k _ _ _)).trans (k _ _ _)).trans (k _ _ _)).trans (k _ _ _)
theorem si(cur:Array Value)(o:Nat)(c:gJ):(J9 cur o c).size=cur.size:=by simp[J9]
theorem Ak(cur:Array Value)(p q:Nat)(c:gJ)(b:p*5+5<=cur.size)(f:Nat)(a:f<5):(J9 cur (p*5) c)[q*5+f]?=if q=p then some (I_ (c.sU f))else cur[q*5+f]?:=by
 unfold J9;simp only[Array.getElem?_setIfInBounds,Array.size_setIfInBounds];by_cases h:q=p
 . subst h
   rw[if_pos rfl];match f,a with
   | 0,_=>simp[gJ.sU];omega
   | 1,_=>simp[gJ.sU];omega
   | 2,_=>simp[gJ.sU];omega
   | 3,_=>simp[gJ.sU];omega
   | 4,_=>simp[gJ.sU];omega
 . rw[if_neg h]
   rw[if_neg (by omega),if_neg (by omega),if_neg (by omega),if_neg (by omega),if_neg (by omega)]
theorem J'(w:World)(g n c:Nat)(cur:Array Value)(L:List gJ)(E:w.heap[g]?=some (.cells cur 214 (0,0)))(C:cur.size=c*5)(hn:n<=c)(a:L.length=n)(hb:n<=10000000)(B:1<=n)
 (D:∀ i,(hi:i<L.length)->∀ f,f<5->cur[i*5+f]?=some (I_ (L[i].sU f))) :
 Calls prog 179 #[.slice (some ⟨g,0,none⟩) n c] w (Oz g n c L w):=by
 have X:=h_ D;have Y:=h_ E;have W:=h_ C;clear D E C;go_enter func179,ntmps179;go_wp2_with fail
 go_loopw [2,3] (fun i j wr=>∃ (k l:Nat) (cur:Array Value),2*k<=n/\k+l+1=n/\i=I_ k/\j=I_ l/\wr.heap[g]?=some (.cells cur 214 (0,0))/\cur.size=c*5 /\
  (∀ p,p<n->∀ f,f<5->cur[p*5+f]?=some (I_ ((mid L k p).sU f)))/\cq (fun k=>k=g) w wr) (fun i _ _=>n-(intOf i).toNat)
 case atStart =>
  refine⟨0,n-1,cur,by omega,by omega,rfl,by go_num,Y.out,W.out,fun p u f b=>?_,cq.refl _ _⟩;have H:p<L.length:=by rw[a];exact u
  rw[X.out p H f b];unfold mid;rw[if_neg (by omega),List.getD_eq_getElem?_getD,List.getElem?_eq_getElem H];rfl
 case round =>
  obtain⟨k,l,cur,hk,ag,rfl,rfl,d,m,b,J⟩:=hrel;by_cases ah:k<l
  . have F:=fun f (h:f<5)=>cp d (b k (by omega) f h)
    have G:=fun f (h:f<5)=>cp d (b l (by omega) f h);obtain⟨o,v⟩:=JZ L k k (by rw[a];omega) (.inl rfl);obtain⟨q,z⟩:=JZ L k l (by rw[a];omega) (.inr (by rw[a];omega));rw[show L.length-1-k=l by rw[a];omega]at o;rw[show L.length-1-l=k by rw[a];omega]at q;rw[v]at F;rw[z]at G;have I:=fun p B Z=>JY L k p (by rw[a];omega) B Z;generalize L.getD k ⟨0,0,0,0,0⟩=x at F o q v;generalize L.getD l ⟨0,0,0,0,0⟩=y at G o q z;have K:=F 0 (by omega);have N:=F 1 (by omega);have O:=F 2 (by omega);have P:=F 3 (by omega);have Q:=F 4 (by omega);have R:=G 0 (by omega);have S:=G 1 (by omega);have T:=G 2 (by omega);have U:=G 3 (by omega);have V:=G 4 (by omega);simp only[gJ.sU,Nat.add_zero]at K N O P Q R S T U V;have fr:=fun i=>cB (i:=i) d;have M:Hid (∃ e,(Aj (Aj wr g (k*5) y) g (l*5) x).drew.heap[g]?=some (.cells e 214 (0,0))/\e.size=c*5/\(∀ p,p<n->∀ f,f<5->e[p*5+f]?=some (I_ ((mid L (k+1) p).sU f)))):=by
     refine⟨_,by rw[heap_drew];exact xj (xj d y) x,by rw[si,si];exact m,fun p u f t=>?_⟩;rw[Ak _ l p x (by rw[si,m];omega) f t,Ak _ k p y (by rw[m];omega) f t];by_cases s:p=l
     . rw[if_pos s,s,q]
     . rw[if_neg s]
       by_cases r:p=k
       . rw[if_pos r,r,o]
       . rw[if_neg r,b p u f t,I p r (by rw[a];omega)]
    have A:Hid (cq (fun k=>k=g) w (Aj (Aj wr g (k*5) y) g (l*5) x).drew):=(J.trans ((uO wr g (k*5) y).trans (uO _ g (l*5) x))).trans (cq.drew _ _);clear F G o v q z I d m b;unfold Aj at M A;have ab:(k:Int)<n:=by omega
    have ac:(l:Int)<n:=by omega
    have ad:(0:Int)<=k:=by omega
    have ae:(0:Int)<=l:=by omega
    go_wp2_with fail;go_region
    go_wp2;go_roundw;case rel =>
     obtain⟨e,q1,q2,q3⟩:=M.out;exact⟨k+1,l-1,e,by omega,by omega,by go_num,by go_num,q1,q2,q3,A.out⟩
    case measure=>simp[intOf];omega
  . have aa:k=n / 2:=by omega
    have af:(l:Int)<=k:=by omega
    go_wp2;go_end0;exact⟨rfl,⟨cur,d,m,by rw[<- aa];exact b⟩,J⟩
theorem tU:(prog.info? 214).map (fun i=>(i.zero,i.size,i.bytes))=some (some (.agg #[I_ 0,I_ 0,I_ 0,I_ 0,I_ 0]),5,40):=by kernel_rfl
def gM(W w:World)(a:Option Addr)(c:Nat)(L:List gJ):Prop:=fp w 214 5 a L.length c (oy L)/\∀ g,dF a=some g->W.heap.size<=g
def EV(L:List gJ)(w:World)(e:Ending)(w':World):Prop :=
 ∃ a c,e=.returned (.slice a L.length c)/\gM w w' a c L/\K_ w w'
theorem gM.ct{W w w':World}{a:Option Addr}{c:Nat}{L:List gJ}(h:gM W w a c L){S:Nat->Prop}(k:cq S w w')(b:∀ g,dF a=some g->¬ S g):gM W w' a c L:=⟨h.1.ct k b,h.2⟩
theorem gM.alloc{W w:World}{a:Option Addr}{c:Nat}{L:List gJ}(h:gM W w a c L)(o:Obj):gM W (w.alloc o) a c L:=h.ct (dR _ _) (fun _ _=>id)
theorem gM.ie{W w w':World}{a b:Option Addr}{c f:Nat}{L:List gJ}(h:gM W w a c L)(x:gJ)(o:fp w' 214 5 b (L.length+1) f (oy L++x.cells))(k:Nat)(l:dF b=dF a\/dF b=some k)(i:W.heap.size<=k):gM W w' b f (L++[x]):=by
 refine⟨?_,?_⟩
 . rw[JX,List.length_append]
   have:oy [x]=x.cells:=by simp[oy]
   rw[this];exact o
 . intro g d
   rcases l with e | e <;> rw[e]at d
   . exact h.2 g d
   . cases d;exact i
theorem qW(w:World)(x:gJ):∀ j u,x.cells[j]?=some u->(w.alloc (.cells #[I_ x.cM,I_ x.cE,I_ x.size,I_ x.table,I_ x.iB] 214)).cell? ((⟨w.heap.size,0,none⟩:Addr).add j)=some u:=by
 intro j u a;rw[Addr.add_lit,Nat.zero_add];refine cp (cx _ _) ?_;simpa[gJ.cells] using a
theorem tV(x:gJ):∀ u ∈ x.cells,u.oneCell'=true:=by
 intro u a;simp[gJ.cells]at a;rcases a with rfl | rfl | rfl | rfl | rfl <;> rfl
theorem zC(L:List gJ)(p:Nat)(a:p<L.length):mid L (L.length / 2) p=L.reverse[p]'(by simpa using a):=by
 rw[List.getElem_reverse];unfold mid;split
 . rw[List.getD_eq_getElem?_getD,List.getElem?_eq_getElem (by omega)];rfl
 . have e:p=L.length-1-p:=by omega
   rw[List.getD_eq_getElem?_getD,List.getElem?_eq_getElem a,Option.getD_some];congr 1
theorem yM(W w:World)(a:Option Addr)(c:Nat)(L:List gJ)(h:gM W w a c L)(t:L=[]->a=none)(n:L.length<=10000000) :
 Calls prog 179 #[.slice a L.length c] w fun e w'=>e=.returned (.tuple #[])/\gM W w' a c L.reverse/\cq (fun k=>dF a=some k) w w':=by
 rcases h.1.jK with⟨rfl,s,rfl,z⟩ | ⟨g,cur,rfl,q,l,o,p,u,A⟩
 . obtain rfl:L=[]:=List.eq_nil_of_length_eq_zero s
   refine eD (EU w) ?_;exact⟨rfl,h,cq.refl _ _⟩
 . have m:1<=L.length:=by
    cases L with
    | nil=>cases t rfl
    | cons _ _=>simp
   refine(J' w g L.length c cur L q p l rfl n m fun i b f d=>?_).mono ?_
   . rw[<- Array.getElem?_toList]
     have:=uN L i f b d;rw[<- u,List.getElem?_take_of_lt (by omega)]at this;exact this
   . rintro e B ⟨rfl,⟨j,v,x,y⟩,k⟩
     refine⟨rfl,⟨⟨by rw[Ai],.inr ⟨g,c,j,by simp,by simp,v,by simpa using l,o,x,?_⟩⟩,h.2⟩,k.mono fun k _ r=>by rw[r];rfl⟩;have:=Oy (L:=L.reverse) (cur:=j.toList) fun i b f d=>?_
     . exact this
     . rw[List.length_reverse]at b
       rw[Array.getElem?_toList,y i b f d,zC L i b]
theorem sj(w:World)(b E:Nat)(m:Mem)(j:Int)(h:dY w b E m) :
 Calls prog 105 #[cD b,I_ j] w (EV (Class.all m j) w):=by
 have H:=h_ h;have ai:=h.le;have af:=Class.qM m j;clear h;have n:Hid (Class.all m j=if(m.cell j).2=0 then(Class.dH m (m.cell j).1 m.size).reverse else []):=rfl;generalize Class.all m j=r at n af |-;have N:=h_ fun w H=>eu w b E m j H;have O:=m.fh j;generalize m.cell j=q at N n O;obtain⟨s,K⟩:=q;simp only at n O N;go_enter func105,ntmps105;go_wp2_with fail;refine eD (N.out _ H.out) ?_;go_wp2_with fail;refine eD (js _ _ _ _ H.out) ?_;by_cases t:K=0
 . have o:=n.out
   rw[if_pos t]at o;have ae:(K == 0)=true:=by simp[t]
   have k:=h_ o;clear n o t;go_wp2_with fail
   go_loopw [5,6,8] (fun ov av S wr=>∃ (L:List gJ) (a:Option Addr) (c:Nat) (d p:Int),ov=.slice a L.length c/\av=I_ d/\S=I_ p/\gM w wr a c L/\dY wr b E m/\K_ w wr /\
    L++Class.dH m d p=Class.dH m s m.size/\(-9223372036854775808<=d/\d<=9223372036854775807)/\(L=[]->a=none))
    (fun _ _ S _=>(intOf S).toNat)
   case atStart=>exact⟨[],none,0,s,m.size,rfl,rfl,rfl,⟨fp.nil _ _ _,by simp[dF]⟩,H.out,cq.refl _ _,rfl,O,fun _=>rfl⟩
   case round =>
    obtain⟨L,a,c,d,p,rfl,rfl,rfl,ho,hm,Z,M,⟨ac,ad⟩,Q⟩:=hrel;have B:=h_ ho;have J:=h_ hm;have A:=h_ Z;have ag:L.length<=m.size:=by
     have h1:=Class.zS m s m.size;rw[<- M,List.length_append]at h1;omega
    have I:=h_ M;clear ho hm Z M;by_cases u:0<d/\d<p
    . obtain⟨g1,g2⟩:=u
      have aa:=h_ (iW wr b E m d J.out ac ad);have G:=Class.kT m d p ⟨g1,g2⟩;have F:=Class.Jo m d p;have R : -9223372036854775808<=(Class.cT m d).1.iB/\(Class.cT m d).1.iB<=9223372036854775807:=by
       unfold Class.cT;split
       . simp
       . exact m.fh _
      generalize Class.cT m d=x at aa G F R;obtain⟨x,ok⟩:=x;simp only at G F R;have HS:=h_ G;have HB:=h_ F;clear G F;go_wp2_with fail;refine aa.out.mono ?_;rintro e z ⟨rfl,y⟩;unfold pT gJ.val;have D:=h_ ((B.out.ct y (fun _ _=>id)).alloc (.cells #[I_ x.cM,I_ x.cE,I_ x.size,I_ x.table,I_ x.iB] 214));have M2:=h_ ((J.out.ct y id id).dC (.cells #[I_ x.cM,I_ x.cE,I_ x.size,I_ x.table,I_ x.iB] 214));have V:=h_ ((A.out.trans y).trans (dR _ (.cells #[I_ x.cM,I_ x.cE,I_ x.size,I_ x.table,I_ x.iB] 214)));have u:∀ g,dF a=some g->g<z.heap.size:=fun g hg=>(B.out.ct y (fun _ _=>id)).1.lt hg;have ah:w.heap.size<=z.heap.size:=(A.out.trans y).size;clear y B J A;cases ok with
      | false =>
       go_wp2_with fail;refine(yM _ _ a c L D.out Q (by omega)).mono ?_;rintro e T ⟨rfl,f,l⟩;go_wp2;go_ret;have v:L=Class.dH m s m.size:=by
        have:=I.out;rw[HB.out trivial,List.append_nil]at this;exact this
       refine⟨a,c,?_,?_,?_⟩
       . rw[k.out,<- v,List.length_reverse];rfl
       . rw[k.out,<- v];exact f
       . exact V.out.dh l (fun i P e=>absurd (f.2 i e) (by omega))
      | true =>
       go_wp2_with (first
        | (at_builtin;refine eB rfl _ _ 211 rfl 214 _ 5 40 underlying211 tU rfl (by decide) a L.length c (oy L) rfl (D.out.alloc _).1 ⟨z.heap.size+1,0,none⟩ 1 1 x.cells rfl rfl ?c1 (tV x) ?c3 ?c4 ?_))
       case c1 =>
        have:=qW (z.alloc (.cells #[I_ x.cM,I_ x.cE,I_ x.size,I_ x.table,I_ x.iB] 214)) x;rw[World.size_alloc]at this;exact this
       case c3=>unfold maxLen;omega
       case c4=>omega
       intro a' c' T f l l3;have U:((z.alloc (.cells #[I_ x.cM,I_ x.cE,I_ x.size,I_ x.table,I_ x.iB] 214)).alloc (.cells #[I_ x.cM,I_ x.cE,I_ x.size,I_ x.table,I_ x.iB] 214)).heap[z.heap.size]?=some (.cells #[I_ x.cM,I_ x.cE,I_ x.size,I_ x.table,I_ x.iB] 214 (0,0)):=(dp _ _ (by simp)).trans (cx _ _);have c4:=l.cell (cp (i:=4) U rfl) (fun e=>absurd (u _ e) (Nat.lt_irrefl _));have W:=(V.out.trans (dR _ (.cells #[I_ x.cM,I_ x.cE,I_ x.size,I_ x.table,I_ x.iB] 214))).dh l (fun i P e=>absurd (D.out.2 i e) (by omega));have O3:=h_ (D.out.ie x f _ l3 (by omega));have X:=h_ W;have Y:(L++[x])++Class.dH m x.iB d=Class.dH m s m.size:=by
        have:=I.out;rw[HS.out trivial]at this;simpa using this
       have ab:=h_ Y;clear l f l3 W Y U;go_wp2_with fail;go_quiet (fail);go_wp2;go_roundw;case rel =>
        refine⟨L++[x],a',c',x.iB,d,?_,rfl,rfl,O3.out.ct (cq.drewN (fun _=>False) _ _) (fun _ _=>id),(H.out.ct X.out id id).drewN _,X.out.trans (cq.drewN _ _ _),ab.out,R,by simp⟩;rw[List.length_append];rfl
       case measure=>simp[intOf];omega
    . have v:L=Class.dH m s m.size:=by
       have:=I.out;rw[Class.uq m _ _ u,List.append_nil]at this;exact this
      have C:=h_ v;by_cases hp:0<d
      . have hq:¬ d<p:=by omega
        clear u v;go_wp2_with fail;refine(yM _ _ a c L B.out Q (by omega)).mono ?_;rintro e T ⟨rfl,f,l⟩;go_wp2;go_ret;refine⟨a,c,?_,?_,?_⟩
        . rw[k.out,<- C.out,List.length_reverse];rfl
        . rw[k.out,<- C.out];exact f
        . exact A.out.dh l (fun i P e=>absurd (f.2 i e) (by omega))
      . clear u v
        go_wp2_with fail;refine(yM _ _ a c L B.out Q (by omega)).mono ?_;rintro e T ⟨rfl,f,l⟩;go_wp2;go_ret;refine⟨a,c,?_,?_,?_⟩
        . rw[k.out,<- C.out,List.length_reverse];rfl
        . rw[k.out,<- C.out];exact f
        . exact A.out.dh l (fun i P e=>absurd (f.2 i e) (by omega))
 . have o:=n.out
   rw[if_neg t]at o;have ae:(K == 0)=false:=by simp[t]
   have k:=h_ o;clear n o t;go_wp2_with fail;refine wp_loop_rounds 1 ?_;rw[rounds_succ];go_wp2_with fail;refine eD (EU _) ?_;go_wp2;go_ret;exact⟨none,0,by rw[k.out];rfl,by rw[k.out];exact⟨fp.nil _ _ _,by simp[dF]⟩,cq.refl _ _⟩
theorem gM.get{W w:World}{a:Option Addr}{c:Nat}{L:List gJ}(h:gM W w a c L){k:Nat}(d:k<L.length) :
 ∃ g,a=some ⟨g,0,none⟩/\L.length<=c/\∀ f,f<5->w.cell? ⟨g,k*5+f,none⟩=some (I_ (L[k].sU f)):=by
 rcases h.1.jK with⟨rfl,m,rfl,o⟩ | ⟨g,cur,rfl,l,e,i,j,n,p⟩
 . omega
 . exact⟨g,rfl,e,fun f b=>h.1.cell (uN L k f d b)⟩
theorem Ka(W w:World)(a:Option Addr)(c:Nat)(L:List gJ)(k:Nat)(z:Array Value)(p:gJ->Bool)(h:gM W w a c L)(K:L.length<=10000000)
 (M:∀ (y:Array Value) (w:World),(callFunc k y).run prog w=.ok (.enter k y) w)
 (G:∀ w',K_ w w'->∀ x ∈ L,Calls prog k (#[x.val]++z) w' fun e J=>e=.returned (.bool (p x))/\K_ w' J) :
 Calls prog 393 #[.slice a L.length c,.func (.func k) #[] z] w fun e w'=>(∃ i,e=.returned (I_ i)/\decide (0<=i)=L.any p)/\K_ w w':=by
 go_enter func393,ntmps393;go_wp2_with fail
 go_loopw [8] (fun n wr=>∃ (j:Nat),n=I_ j/\j<=L.length/\(∀ (i:Nat) (b:i<L.length),i<j->p L[i]=false)/\K_ w wr)
  (fun n _=>L.length-(intOf n).toNat)
 case atStart=>exact⟨0,rfl,by omega,fun i b h=>by omega,cq.refl _ _⟩
 case round =>
  obtain⟨j,rfl,O,B,f⟩:=hrel;by_cases l:j<L.length
  . have A:=h.ct f (fun _ _=>id)
    obtain⟨g,rfl,P,F⟩:=A.get l;have o:=F 0 (by omega);have q:=F 1 (by omega);have s:=F 2 (by omega);have t:=F 3 (by omega);have u:=F 4 (by omega);have d:=G wr f L[j] (List.getElem_mem l);obtain⟨r,m⟩:∃ r,p L[j]=r:=⟨_,rfl⟩;rw[m]at d;have C:=h_ m;clear m;generalize L[j]=x at o q s t u d;unfold gJ.val at d;simp only[gJ.sU,Nat.add_zero]at o q s t u;clear F A;go_wp2_with fail;refine d.mono ?_;rintro e Q ⟨rfl,D⟩;have v:=f.trans D;clear D;cases r with
    | true =>
     go_wp2;go_ret;refine⟨⟨j,rfl,?_⟩,v⟩;have:L.any p=true:=List.any_eq_true.2 ⟨L[j],List.getElem_mem l,C.out⟩;rw[this];simp
    | false =>
     go_wp2;go_roundw;case rel =>
      refine⟨j+1,by go_num,by omega,fun i b N=>?_,v⟩;by_cases e:i=j
      . subst e;exact C.out
      . exact B i b (by omega)
     case measure=>simp[intOf];omega
  . have H:j=L.length:=by omega
    subst H;have E:L.any p=false:=by
     rw[List.any_eq_false];intro x I;obtain⟨i,b,rfl⟩:=List.getElem_of_mem I;rw[B i b b];simp
    go_wp2;go_ret;exact⟨⟨-1,rfl,by rw[E];rfl⟩,f⟩
theorem xm(W w:World)(a:Option Addr)(c:Nat)(L:List gJ)(k:Nat)(b:Array Value)(p:gJ->Bool)(h:gM W w a c L)(l:L.length<=10000000)
 (g:∀ (f:Array Value) (w:World),(callFunc k f).run prog w=.ok (.enter k f) w)
 (j:∀ w',K_ w w'->∀ x ∈ L,Calls prog k (#[x.val]++b) w' fun e o=>e=.returned (.bool (p x))/\K_ w' o) :
 Calls prog 280 #[.slice a L.length c,.func (.func k) #[] b] w fun e w'=>e=.returned (.bool (L.any p))/\K_ w w':=by
 have d:=Ka W w a c L k b p h l g j;clear h g j;generalize L.any p=r at d |-;go_enter func280,ntmps280;go_wp2_with fail;refine d.mono ?_;rintro e q ⟨⟨i,rfl,m⟩,n⟩;go_wp2;go_ret;exact⟨by rw[<- m];rfl,n⟩
theorem UM(x y:Value):(#[x]++#[y]:Array Value)=#[x,y]:=rfl
theorem UN(x y z:Value):(#[x]++#[y,z]:Array Value)=#[x,y,z]:=rfl
theorem GO(w:World)(x:gJ)(a:Int)(b:Nat)(c:w.cell? ⟨b,0,none⟩=some (I_ a)) :
 Calls prog 281 #[x.val,cD b] w fun e w'=>e=.returned (.bool (decide (x.cM=a)))/\K_ w w':=by
 unfold gJ.val;have d:=World.block_lt_of_cell? _ _ c;go_enter func281,ntmps281;go_wp2;go_ret;exact⟨rfl,cq.alloc _ _ _⟩
theorem qX(w:World)(b k:Nat)(m:Mem)(d a:Int)(h:dY w b k m) :
 Calls prog 178 #[cD b,I_ d,I_ a] w fun e w'=>e=.returned (.bool (Class.is m d a))/\K_ w w':=by
 have E:∀ (o:Fn) (n l:Array Value) (w:World),(Instr.makeFunc o n l).run prog w=.ok (.func o n l) w:=fun _ _ _ _=>rfl;have p:=h_ (sj (w.alloc (.cells #[I_ a] 2)) b k m d (h.dC _));have A:=Class.qM m d;have D:=h.le;have f:Hid (Class.is m d a=(Class.all m d).any fun c=>decide (c.cM=a)):=rfl;generalize Class.is m d a=r at f |-;generalize Class.all m d=L at p f A;have y:=World.cell?_alloc_new w #[I_ a] 2 0;clear h;go_enter func178,ntmps178;go_wp2_with fail;refine p.out.mono ?_;rintro e C ⟨s,c,rfl,j,i⟩
 have t:=(xm w C s c L 281 #[cD w.heap.size] (fun c=>decide (c.cM=a)) ⟨j.1,fun g z=>Nat.le_trans (by simp) (j.2 g z)⟩ (by omega) call281 (fun w' B x _=>by
  rw[UM]
  exact GO w' x a w.heap.size ((i.trans B).cell y id)))
 have u:=(dR w (.cells #[I_ a] 2)).trans i;clear j i;go_wp2_with fail;refine t.mono ?_;rintro e F ⟨rfl,q⟩;have v:=u.trans q;clear q;go_wp2;go_ret;exact⟨by rw[f.out];rfl,v⟩
theorem nK(w:World)(b t:Nat)(m:Mem)(a j:Int)(h:dY w b t m)(P : -9223372036854775808<=a)(Q:a<=9223372036854775807) :
 Calls prog 275 #[cD b,I_ a,I_ j] w fun e w'=>e=wD (Class.lookup m a j)/\K_ w w':=by
 have o:=fun w h=>iW w b t m a h P Q;have f:Hid (Class.lookup m a j=if(Class.cT m a).2=false then(⟨0,0,0⟩,0,false)else dj.get m (Class.cT m a).1.table j):=rfl;generalize Class.lookup m a j=r at f |-;generalize Class.cT m a=q at o f;obtain⟨x,T⟩:=q;simp only at f;unfold pT gJ.val at o;cases T with
 | false =>
  have k:=f.out;rw[if_pos rfl]at k;subst k;clear f;go_enter func275,ntmps275;go_wp2_with fail;refine(o _ (by exact h.dC _)).mono ?_;rintro e l ⟨rfl,g⟩;have c:l.heap[w.heap.size]?=some (.cells #[I_ 0,I_ 0,I_ 0] 279 (0,0)):=g.heap (cx _ _) id;have R:w.heap.size<l.heap.size:=cA c;have I:=cp (i:=0) c rfl;have J:=cp (i:=1) c rfl;have K:=cp (i:=2) c rfl;have L:=cB (i:=0) c;have M:=cB (i:=1) c;have N:=cB (i:=2) c;have d:=Ab c (I_ 0) (I_ 0) (I_ 0);have u:=cp (i:=0) d rfl;have y:=cp (i:=1) d rfl;have z:=cp (i:=2) d rfl;have s:=(((((dR w _).trans g).dW ⟨w.heap.size,0,none⟩ (I_ 0) (Nat.le_refl _)).dW ⟨w.heap.size,1,none⟩ (I_ 0) (Nat.le_refl _)).dW ⟨w.heap.size,2,none⟩ (I_ 0) (Nat.le_refl _)).trans (dR _ (.cells #[I_ x.cM,I_ x.cE,I_ x.size,I_ x.table,I_ x.iB] 214));clear c d g;go_wp2;exact bodyPost_ret (v:=.tuple #[.agg #[I_ 0,I_ 0,I_ 0],I_ 0,.bool false]) (by simp[results,results275,go_sem,u,y,z,R]) rfl ⟨rfl,s⟩
 | true =>
  have k:=f.out;rw[if_neg (by simp)]at k;have p:=h_ fun w h=>EN w b t m x.table j h;generalize dj.get m x.table j=q at k p;subst k;obtain⟨⟨C,D,E⟩,n,S⟩:=r;clear f;unfold wD jz.val at p;simp only at p;go_enter func275,ntmps275;go_wp2_with fail;refine(o _ (by exact h.dC _)).mono ?_;rintro e l ⟨rfl,g⟩;have A:l.heap[w.heap.size]?=some (.cells #[I_ 0,I_ 0,I_ 0] 279 (0,0)):=g.heap (cx _ _) id;have G:=(dR w (.cells #[I_ 0,I_ 0,I_ 0] 279)).trans g;have O:=(dp l (.cells #[I_ x.cM,I_ x.cE,I_ x.size,I_ x.table,I_ x.iB] 214) (cA A)).trans A;have H:=G.trans (dR l (.cells #[I_ x.cM,I_ x.cE,I_ x.size,I_ x.table,I_ x.iB] 214));clear A G g;go_wp2_with fail;refine(p.out _ (by exact h.ct H id id)).mono ?_;rintro e U ⟨rfl,B⟩;have c:=B.heap O id;have F:=H.trans B;have I:=cp (i:=0) c rfl;have J:=cp (i:=1) c rfl;have K:=cp (i:=2) c rfl;have L:=cB (i:=0) c;have M:=cB (i:=1) c;have N:=cB (i:=2) c;have d:=Ab c (I_ C) (I_ D) (I_ E);have u:=cp (i:=0) d rfl;have y:=cp (i:=1) d rfl;have z:=cp (i:=2) d rfl;have s:=((F.dW ⟨w.heap.size,0,none⟩ (I_ C) (Nat.le_refl _)).dW ⟨w.heap.size,1,none⟩ (I_ D) (Nat.le_refl _)).dW ⟨w.heap.size,2,none⟩ (I_ E) (Nat.le_refl _);clear c d F B;go_wp2;exact bodyPost_ret (v:=.tuple #[.agg #[I_ C,I_ D,I_ E],I_ n,.bool S]) (by simp[results,results275,go_sem,u,y,z]) rfl ⟨rfl,s⟩
set_option maxHeartbeats 4000000
theorem Kb(a b c d e:Value)(w:World):(Instr.index 345 (.agg #[a,b,c,d,e]) (I_ 0)).run prog w=.ok a w:=by rfl
theorem Kc(a b c d e:Value)(w:World):(Instr.index 345 (.agg #[a,b,c,d,e]) (I_ 1)).run prog w=.ok b w:=by rfl
theorem Kd(a b c d e:Value)(w:World):(Instr.index 345 (.agg #[a,b,c,d,e]) (I_ 2)).run prog w=.ok c w:=by rfl
theorem Ke(a b c d e:Value)(w:World):(Instr.index 345 (.agg #[a,b,c,d,e]) (I_ 3)).run prog w=.ok d w:=by rfl
theorem Kf(a b c d e:Value)(w:World):(Instr.index 345 (.agg #[a,b,c,d,e]) (I_ 4)).run prog w=.ok e w:=by rfl
theorem Am(w:World)(s b p:Nat)(x:Sp)(A n B:Int)(h:gR w s b p x)(V : -9223372036854775808<=n)(W:n<=9223372036854775807) :
 Calls prog 384 #[cD s,I_ A,I_ n,I_ B] w (ko s b p (Class.dT x A n B) w):=by
 have H:=h_ h;have Q:=h.c0;clear h
 have E:Hid (Class.dT x A n B=if(x.mem.cell A).2≠0 then(x,0,(x.mem.cell A).2)
  else if n=0 then(if(dj.new x B).2.2≠0 then((dj.new x B).1,0,(dj.new x B).2.2)else Class.dT.cells (dj.new x B).1 [357694784579,n,8,(dj.new x B).2.1,(x.mem.cell A).1] (dj.new x B).1.cu)
  else if Class.is x.mem A n=false then(x,0,-2048)
  else(if(dj.copy x (Class.cT x.mem n).1.table).2.2≠0 then((dj.copy x (Class.cT x.mem n).1.table).1,0,(dj.copy x (Class.cT x.mem n).1.table).2.2)else Class.dT.cells (dj.copy x (Class.cT x.mem n).1.table).1 [357694784579,n,(Class.cT x.mem n).1.size,(dj.copy x (Class.cT x.mem n).1.table).2.1,(x.mem.cell A).1] (dj.copy x (Class.cT x.mem n).1.table).1.cu)):=rfl
 generalize Class.dT x A n B=r at E |-;have i:=h_ (eu w b p x.mem A H.out.mem);generalize x.mem.cell A=q at i E;obtain⟨N,P⟩:=q;simp only at E i;have ac:=Kb;have ad:=Kc;have ae:=Kd;have af:=Ke;have ag:=Kf;go_enter func384,ntmps384;go_wp2_with fail;refine i.out.mono ?_;rintro v z ⟨rfl,rfl⟩;by_cases G:P=0
 . have a:=E.out
   rw[if_neg (by simpa using G)]at a;have aa:(P != 0)=false:=by simp[G]
   clear G;by_cases J:n=0
   . rw[if_pos J]at a
     have ab:(n == 0)=true:=by simp[J]
     clear E J V W;have C:=h_ (ET w s b p x B H.out);generalize dj.new x B=q at C a;obtain⟨y,u,e⟩:=q;simp only at a;unfold ko at C;simp only at C;obtain⟨D,F⟩:∃ D:Int,D=8:=⟨_,rfl⟩;rw[<- F]at a;have d:=h_ a;have O:=h_ F;clear a F;go_wp2_with fail;refine C.out.mono ?_;rintro v z ⟨rfl,j,g⟩;have S:=h_ j;have K:=h_ g;clear j g Q;by_cases f:e=0
     . have a:=d.out
       rw[if_neg (by simpa using f)]at a;have o:(e != 0)=false:=by simp[f]
       clear d;have d:=h_ a;clear a f;go_wp2_with fail;rw[<- O.out];refine(eJ _ _ _ _ _ S.out).mono ?_;rintro v z ⟨rfl,rfl⟩;go_wp2_with fail;refine wp_loop_rounds 6 ?_;rw[rounds_succ];go_wp2_with fail;have i:=eP _ s b p _ (357694784579) S.out;have a:=d.out;rw[Class.dT.cells]at a;generalize Sp.cN _ (357694784579)=t at i a;obtain⟨y,e⟩:=t;have l:=h_ i;clear i d;simp only at a;refine l.out.mono ?_;rintro v z ⟨rfl,j,g⟩;have m:=h_ (K.out.trans g);clear K;have K:=m;have S:=h_ j;clear j g m l;by_cases f:e=0
       . rw[if_neg (by simpa using f)]at a
         have o:(e != 0)=false:=by simp[f]
         have d:=h_ a;clear a f;go_wp2_with fail;rw[rounds_succ];go_wp2_with fail;have i:=eP _ s b p _ (n) S.out;have a:=d.out;rw[Class.dT.cells]at a;generalize Sp.cN _ (n)=t at i a;obtain⟨y,e⟩:=t;have l:=h_ i;clear i d;simp only at a;refine l.out.mono ?_;rintro v z ⟨rfl,j,g⟩;have m:=h_ (K.out.trans g);clear K;have K:=m;have S:=h_ j;clear j g m l;by_cases f:e=0
         . rw[if_neg (by simpa using f)]at a
           have o:(e != 0)=false:=by simp[f]
           have d:=h_ a;clear a f;go_wp2_with fail;rw[rounds_succ];go_wp2_with fail;have i:=eP _ s b p _ (D) S.out;have a:=d.out;rw[Class.dT.cells]at a;generalize Sp.cN _ (D)=t at i a;obtain⟨y,e⟩:=t;have l:=h_ i;clear i d;simp only at a;refine l.out.mono ?_;rintro v z ⟨rfl,j,g⟩;have m:=h_ (K.out.trans g);clear K;have K:=m;have S:=h_ j;clear j g m l;by_cases f:e=0
           . rw[if_neg (by simpa using f)]at a
             have o:(e != 0)=false:=by simp[f]
             have d:=h_ a;clear a f;go_wp2_with fail;rw[rounds_succ];go_wp2_with fail;have i:=eP _ s b p _ (u) S.out;have a:=d.out;rw[Class.dT.cells]at a;generalize Sp.cN _ (u)=t at i a;obtain⟨y,e⟩:=t;have l:=h_ i;clear i d;simp only at a;refine l.out.mono ?_;rintro v z ⟨rfl,j,g⟩;have m:=h_ (K.out.trans g);clear K;have K:=m;have S:=h_ j;clear j g m l;by_cases f:e=0
             . rw[if_neg (by simpa using f)]at a
               have o:(e != 0)=false:=by simp[f]
               have d:=h_ a;clear a f;go_wp2_with fail;rw[rounds_succ];go_wp2_with fail;have i:=eP _ s b p _ (N) S.out;have a:=d.out;rw[Class.dT.cells]at a;generalize Sp.cN _ (N)=t at i a;obtain⟨y,e⟩:=t;have l:=h_ i;clear i d;simp only at a;refine l.out.mono ?_;rintro v z ⟨rfl,j,g⟩;have m:=h_ (K.out.trans g);clear K;have K:=m;have S:=h_ j;clear j g m l;by_cases f:e=0
               . rw[if_neg (by simpa using f)]at a
                 have o:(e != 0)=false:=by simp[f]
                 have d:=h_ a;clear a f;go_wp2_with fail;rw[rounds_succ];go_wp2;go_ret2;refine⟨?_,?_,K.out⟩
                 . rw[d.out];rfl
                 . rw[d.out];exact S.out
               . rw[if_pos f]at a
                 have o:(e != 0)=true:=by simp[f]
                 have d:=h_ a;clear a f;go_wp2;go_ret2;refine⟨?_,?_,K.out⟩
                 . rw[d.out];rfl
                 . rw[d.out];exact S.out
             . rw[if_pos f]at a
               have o:(e != 0)=true:=by simp[f]
               have d:=h_ a;clear a f;go_wp2;go_ret2;refine⟨?_,?_,K.out⟩
               . rw[d.out];rfl
               . rw[d.out];exact S.out
           . rw[if_pos f]at a
             have o:(e != 0)=true:=by simp[f]
             have d:=h_ a;clear a f;go_wp2;go_ret2;refine⟨?_,?_,K.out⟩
             . rw[d.out];rfl
             . rw[d.out];exact S.out
         . rw[if_pos f]at a
           have o:(e != 0)=true:=by simp[f]
           have d:=h_ a;clear a f;go_wp2;go_ret2;refine⟨?_,?_,K.out⟩
           . rw[d.out];rfl
           . rw[d.out];exact S.out
       . rw[if_pos f]at a
         have o:(e != 0)=true:=by simp[f]
         have d:=h_ a;clear a f;go_wp2;go_ret2;refine⟨?_,?_,K.out⟩
         . rw[d.out];rfl
         . rw[d.out];exact S.out
     . have a:=d.out
       rw[if_pos f]at a;have o:(e != 0)=true:=by simp[f]
       clear d;have d:=h_ a;clear a f;go_wp2;go_ret2;refine⟨?_,?_,K.out⟩
       . rw[d.out];rfl
       . rw[d.out];exact S.out
   . rw[if_neg J]at a
     have ab:(n == 0)=false:=by simp[J]
     clear E J;have L:=h_ (qX w b p x.mem A n H.out.mem);cases I:Class.is x.mem A n with
     | false =>
      rw[I]at L;rw[if_pos I]at a;have d:=h_ a;clear a I;go_wp2_with fail;refine L.out.mono ?_;rintro v z ⟨rfl,g⟩;have S:=h_ (H.out.ct g id id id);have K:=h_ (g.mono (T:=fun k=>k=s\/k=p) (fun _ _=>False.elim));clear g;go_wp2;go_ret2;refine⟨?_,?_,K.out⟩
      . rw[d.out];rfl
      . rw[d.out];exact S.out
     | true =>
      rw[I]at L;rw[if_neg (by rw[I];simp)]at a;clear I;have M:=h_ fun w H=>iW w b p x.mem n H V W;generalize Class.cT x.mem n=q at M a;obtain⟨c,ok⟩:=q;unfold pT gJ.val at M;simp only at M a;have C:=h_ fun w H=>JW w s b p x c.table H;generalize dj.copy x c.table=q at C a;obtain⟨y,u,e⟩:=q;simp only at a;unfold ko at C;simp only at C;have d:=h_ a;clear a;go_wp2_with fail;refine L.out.mono ?_;rintro v z ⟨rfl,g⟩;have U:=h_ (H.out.ct g id id id);have c1:=g.cell Q id;have Y:=h_ g;clear g Q;go_wp2_with fail;refine(M.out z U.out.mem).mono ?_;rintro v w2 ⟨rfl,X⟩;obtain⟨D,F⟩:∃ D:Int,D=c.size:=⟨_,rfl⟩;have R:=X.trans (dR w2 (.cells #[I_ c.cM,I_ c.cE,I_ c.size,I_ c.table,I_ c.iB] 214));have S2:=h_ (U.out.ct R id id id);have Z:=h_ (Y.out.trans R);clear X R c1;go_wp2_with fail;refine(C.out _ S2.out).mono ?_;rintro v z ⟨rfl,j,g⟩;have S:=h_ j;have K:=h_ ((Z.out.mono (T:=fun k=>k=s\/k=p) (fun _ _=>False.elim)).trans g);clear j g;rw[<- F]at d;have O:=h_ F;clear F;by_cases f:e=0
      . have a:=d.out
        rw[if_neg (by simpa using f)]at a;have o:(e != 0)=false:=by simp[f]
        clear d;have d:=h_ a;clear a f;go_wp2_with fail;rw[<- O.out];refine(eJ _ _ _ _ _ S.out).mono ?_;rintro v z ⟨rfl,rfl⟩;go_wp2_with fail;refine wp_loop_rounds 6 ?_;rw[rounds_succ];go_wp2_with fail;have i:=eP _ s b p _ (357694784579) S.out;have a:=d.out;rw[Class.dT.cells]at a;generalize Sp.cN _ (357694784579)=t at i a;obtain⟨y,e⟩:=t;have l:=h_ i;clear i d;simp only at a;refine l.out.mono ?_;rintro v z ⟨rfl,j,g⟩;have m:=h_ (K.out.trans g);clear K;have K:=m;have S:=h_ j;clear j g m l;by_cases f:e=0
        . rw[if_neg (by simpa using f)]at a
          have o:(e != 0)=false:=by simp[f]
          have d:=h_ a;clear a f;go_wp2_with fail;rw[rounds_succ];go_wp2_with fail;have i:=eP _ s b p _ (n) S.out;have a:=d.out;rw[Class.dT.cells]at a;generalize Sp.cN _ (n)=t at i a;obtain⟨y,e⟩:=t;have l:=h_ i;clear i d;simp only at a;refine l.out.mono ?_;rintro v z ⟨rfl,j,g⟩;have m:=h_ (K.out.trans g);clear K;have K:=m;have S:=h_ j;clear j g m l;by_cases f:e=0
          . rw[if_neg (by simpa using f)]at a
            have o:(e != 0)=false:=by simp[f]
            have d:=h_ a;clear a f;go_wp2_with fail;rw[rounds_succ];go_wp2_with fail;have i:=eP _ s b p _ (D) S.out;have a:=d.out;rw[Class.dT.cells]at a;generalize Sp.cN _ (D)=t at i a;obtain⟨y,e⟩:=t;have l:=h_ i;clear i d;simp only at a;refine l.out.mono ?_;rintro v z ⟨rfl,j,g⟩;have m:=h_ (K.out.trans g);clear K;have K:=m;have S:=h_ j;clear j g m l;by_cases f:e=0
            . rw[if_neg (by simpa using f)]at a
              have o:(e != 0)=false:=by simp[f]
              have d:=h_ a;clear a f;go_wp2_with fail;rw[rounds_succ];go_wp2_with fail;have i:=eP _ s b p _ (u) S.out;have a:=d.out;rw[Class.dT.cells]at a;generalize Sp.cN _ (u)=t at i a;obtain⟨y,e⟩:=t;have l:=h_ i;clear i d;simp only at a;refine l.out.mono ?_;rintro v z ⟨rfl,j,g⟩;have m:=h_ (K.out.trans g);clear K;have K:=m;have S:=h_ j;clear j g m l;by_cases f:e=0
              . rw[if_neg (by simpa using f)]at a
                have o:(e != 0)=false:=by simp[f]
                have d:=h_ a;clear a f;go_wp2_with fail;rw[rounds_succ];go_wp2_with fail;have i:=eP _ s b p _ (N) S.out;have a:=d.out;rw[Class.dT.cells]at a;generalize Sp.cN _ (N)=t at i a;obtain⟨y,e⟩:=t;have l:=h_ i;clear i d;simp only at a;refine l.out.mono ?_;rintro v z ⟨rfl,j,g⟩;have m:=h_ (K.out.trans g);clear K;have K:=m;have S:=h_ j;clear j g m l;by_cases f:e=0
                . rw[if_neg (by simpa using f)]at a
                  have o:(e != 0)=false:=by simp[f]
                  have d:=h_ a;clear a f;go_wp2_with fail;rw[rounds_succ];go_wp2;go_ret2;refine⟨?_,?_,K.out⟩
                  . rw[d.out];rfl
                  . rw[d.out];exact S.out
                . rw[if_pos f]at a
                  have o:(e != 0)=true:=by simp[f]
                  have d:=h_ a;clear a f;go_wp2;go_ret2;refine⟨?_,?_,K.out⟩
                  . rw[d.out];rfl
                  . rw[d.out];exact S.out
              . rw[if_pos f]at a
                have o:(e != 0)=true:=by simp[f]
                have d:=h_ a;clear a f;go_wp2;go_ret2;refine⟨?_,?_,K.out⟩
                . rw[d.out];rfl
                . rw[d.out];exact S.out
            . rw[if_pos f]at a
              have o:(e != 0)=true:=by simp[f]
              have d:=h_ a;clear a f;go_wp2;go_ret2;refine⟨?_,?_,K.out⟩
              . rw[d.out];rfl
              . rw[d.out];exact S.out
          . rw[if_pos f]at a
            have o:(e != 0)=true:=by simp[f]
            have d:=h_ a;clear a f;go_wp2;go_ret2;refine⟨?_,?_,K.out⟩
            . rw[d.out];rfl
            . rw[d.out];exact S.out
        . rw[if_pos f]at a
          have o:(e != 0)=true:=by simp[f]
          have d:=h_ a;clear a f;go_wp2;go_ret2;refine⟨?_,?_,K.out⟩
          . rw[d.out];rfl
          . rw[d.out];exact S.out
      . have a:=d.out
        rw[if_pos f]at a;have o:(e != 0)=true:=by simp[f]
        clear d;have d:=h_ a;clear a f;go_wp2;go_ret2;refine⟨?_,?_,K.out⟩
        . rw[d.out];rfl
        . rw[d.out];exact S.out
 . have a:=E.out
   rw[if_pos G]at a;have aa:(P != 0)=true:=by simp[G]
   have d:=h_ a;clear a G E;go_wp2;go_ret2;refine⟨?_,?_,cq.refl _ _⟩
   . rw[d.out];rfl
   . rw[d.out];exact H.out
set_option maxHeartbeats 1000000
theorem GQ(w:World)(s b j:Nat)(x:Sp)(c d f:Int)(h:gR w s b j x)(D : -9223372036854775808<=d)(E:d<=9223372036854775807) :
 Calls prog 261 #[cD s,I_ c,I_ d,I_ f] w (ko s b j (Class.new x c d f) w):=by
 have g:Hid (Class.new x c d f=if(Class.dT x c d f).2.2≠0 then(((Class.dT x c d f).1.fN x.cu).1,0,(Class.dT x c d f).2.2)
  else({ (Class.dT x c d f).1 with mem:=((Class.dT x c d f).1.mem.setCell c (Class.dT x c d f).2.1).1 },(Class.dT x c d f).2.1,((Class.dT x c d f).1.mem.setCell c (Class.dT x c d f).2.1).2)):=rfl
 generalize Class.new x c d f=r at g |-;have n:=h_ (Am w s b j x c d f h D E);generalize Class.dT x c d f=q at n g;obtain⟨y,a,e⟩:=q;simp only at g;unfold ko at n;simp only at n;go_enter func261,ntmps261;go_wp2_with fail;refine(eJ _ _ _ _ _ h).mono ?_;rintro u v ⟨rfl,rfl⟩;go_wp2_with fail;refine n.out.mono ?_;rintro u v ⟨rfl,o,z⟩;have G:=o.c0;by_cases l:e=0
 . have i:=g.out
   rw[if_neg (by simpa using l)]at i;have C:(e != 0)=false:=by simp[l]
   clear l g;go_wp2_with fail;refine(ed v b j y.mem c a o.mem).mono ?_;rintro u F ⟨rfl,A,m⟩;have t:=o.uM A (Mem.cQ _ _ _) m;have p:=z.trans (m.mono (T:=fun k=>k=s\/k=j) (fun _ _ e=>.inr e));clear A m;go_wp2;go_ret2;exact⟨by rw[i];rfl,by rw[i];exact t,p⟩
 . have i:=g.out
   rw[if_pos l]at i;have C:(e != 0)=true:=by simp[l]
   clear l g;go_wp2_with fail;refine(qR v s b j y x.cu o).mono ?_;rintro u F ⟨rfl,B,m⟩;have t:=B;have p:=z.trans m;clear B m;go_wp2;go_ret2;exact⟨by rw[i];rfl,by rw[i];exact t,p⟩
set_option maxHeartbeats 4000000
theorem zD:(Tryz.prog.info? 279).map (fun i=>(i.zero,i.size,i.bytes))=some (some (.agg #[I_ 0,I_ 0,I_ 0]),3,24):=by kernel_rfl
def jz.sU(x:jz):Nat->Int
 | 0=>x.cZ
 | 1=>x.xt
 | _=>x.j7
def jz.cells(x:jz):List Value:=[I_ x.cZ,I_ x.xt,I_ x.j7]
def qb(L:List jz):List Value:=L.flatMap jz.cells
theorem xc(L:List jz)(x:jz):qb (L++[x])=qb L++x.cells:=by simp[qb]
theorem xn(L:List jz)(i f:Nat)(h:i<L.length)(hf:f<3):(qb L)[i*3+f]?=some (I_ (L[i].sU f)):=by
 induction L generalizing i with
 | nil=>simp at h
 | cons c L ih =>
  have e:qb (c :: L)=c.cells++qb L:=rfl;rw[e]
  cases i with
  | zero =>
   match f,hf with
   | 0,_=>rfl
   | 1,_=>rfl
   | 2,_=>rfl
  | succ i =>
   have:=ih i (by simpa using h)
   have hc:c.cells.length=3:=rfl;rw[List.getElem?_append_right (by rw[hc];omega),hc,show(i+1)*3+f-3=i*3+f by omega]
   exact this
def dP(W w:World)(a:Option Addr)(c:Nat)(L:List jz):Prop:=fp w 279 3 a L.length c (qb L)/\∀ g,dF a=some g->W.heap.size<=g
theorem dP.ct{W w w':World}{a:Option Addr}{c:Nat}{L:List jz}(h:dP W w a c L){S:Nat->Prop}(k:cq S w w')(hs:∀ g,dF a=some g->¬ S g):dP W w' a c L:=⟨h.1.ct k hs,h.2⟩
theorem dP.get{W w:World}{a:Option Addr}{c:Nat}{L:List jz}(h:dP W w a c L){k:Nat}(hk:k<L.length) :
 ∃ g,a=some ⟨g,0,none⟩/\L.length<=c/\∀ f,f<3->w.cell? ⟨g,k*3+f,none⟩=some (I_ (L[k].sU f)):=by
 rcases h.1.jK with⟨rfl,hn,rfl,hx⟩ | ⟨g,cur,rfl,hh,hnc,hcm,hcs,htk,hxl⟩
 . omega
 . exact⟨g,rfl,hnc,fun f hf=>h.1.cell (xn L k f hk hf)⟩
theorem xp(w:World)(x:jz):∀ j u,x.cells[j]?=some u->(w.alloc (.cells #[I_ x.cZ,I_ x.xt,I_ x.j7] 279)).cell? ((⟨w.heap.size,0,none⟩:Addr).add j)=some u:=by
 intro j u hu;rw[Addr.add_lit,Nat.zero_add];refine cp (cx _ _) ?_;simpa[jz.cells] using hu
theorem PW(x:jz):∀ u ∈ x.cells,u.oneCell'=true:=by
 intro u hu;simp[jz.cells]at hu
 rcases hu with rfl | rfl | rfl <;> rfl
namespace dj
def iA(m:Mem)(t:Int)(k:Nat):List jz:=((List.range k).map fun i=>cT m t (i:Nat)).filter fun x=>decide (x.cZ≠0)
def all(m:Mem)(t:Int):List jz:=iA m t (cy m t).toNat
theorem vS(m:Mem)(t:Int)(k:Nat):iA m t (k+1)=iA m t k++if(cT m t (k:Nat)).cZ=0 then [] else [cT m t (k:Nat)]:=by
 unfold iA;rw[List.range_succ,List.map_append,List.filter_append];congr 1
 by_cases h:(cT m t (k:Nat)).cZ=0 <;> simp[h]
theorem qc(m:Mem)(t:Int)(k:Nat):(iA m t k).length<=k:=by
 have:=List.length_filter_le (fun x:jz=>decide (x.cZ≠0)) ((List.range k).map fun i=>cT m t (i:Nat))
 simpa[iA] using this
end dj
theorem ua(w:World)(b bb:Nat)(m:Mem)(t:Int)(h:dY w b bb m)(h0 : -4611686018427387904<=t)(h1:t<=4611686018427387904) :
 Calls Tryz.prog 181 #[cD b,I_ t] w fun e w'=>∃ a c,e=.returned (.slice a (dj.all m t).length c)/\dP w w' a c (dj.all m t)/\K_ w w':=by
 have H:=h_ h;have hsb:=dj.iL m t;have hc:=h_ fun w H=>sf w b bb m t H
 clear h;have HD:Hid (dj.all m t=dj.iA m t (dj.cy m t).toNat):=rfl;generalize dj.all m t=r at HD |-;generalize dj.cy m t=n at hc HD hsb;obtain⟨k,rfl⟩:∃ k:Nat,n=k:=⟨n.toNat,by omega⟩
 obtain⟨_,hk⟩:=hsb;have HR:=h_ (show r=dj.iA m t k from HD.out.trans (by rw[Int.toNat_natCast]))
 clear HD;have hrd:=h_ fun w (i:Nat) H hi=>uH w b bb m t (i:Int) H h0 h1 (by omega) hi
 clear h0 h1
 go_enter Tryz.func181,Tryz.ntmps181
 go_wp2_with fail;refine(hc.out _ H.out).mono ?_;rintro e w1 ⟨rfl,rfl⟩;go_wp2_with fail
 go_loopw [5,11] (fun ov iv wr=>∃ (i:Nat) (a:Option Addr) (c:Nat),ov=.slice a (dj.iA m t i).length c/\iv=I_ i/\i<=k/\dP w wr a c (dj.iA m t i)/\dY wr b bb m/\K_ w wr)
  (fun _ iv _=>k-(intOf iv).toNat)
 case atStart=>exact⟨0,none,0,rfl,rfl,by omega,⟨fp.nil _ _ _,by simp[dF]⟩,H.out,cq.refl _ _⟩
 case round =>
  obtain⟨i,a,c,rfl,rfl,hi,ho,hm,hk2⟩:=hrel;have HO:=h_ ho;have HM:=h_ hm;have HK:=h_ hk2;have hlen:=dj.qc m t i;clear ho hm hk2;by_cases hlt:i<k
  . have hst:=h_ (dj.vS m t i)
    have hr:=h_ (hrd.out wr i HM.out (by omega))
    generalize dj.cT m t (i:Nat)=x at hst hr;generalize dj.iA m t i=L at HO hst hlen |-;have hi1:(i:Int)<(k:Int):=by omega
    go_wp2_with fail;refine hr.out.mono ?_;rintro e w2 ⟨rfl,k2⟩;unfold jz.val;have O2:=h_ ((HO.out.ct k2 (fun _ _=>id)).ct (dR _ (.cells #[I_ x.cZ,I_ x.xt,I_ x.j7] 279)) (fun _ _=>id))
    have M2:=h_ ((HM.out.ct k2 id id).dC (.cells #[I_ x.cZ,I_ x.xt,I_ x.j7] 279));have K2:=h_ ((HK.out.trans k2).trans (dR _ (.cells #[I_ x.cZ,I_ x.xt,I_ x.j7] 279)));have hge:w.heap.size<=w2.heap.size:=(HK.out.trans k2).size;clear k2 HO HM HK hr;by_cases h0:x.cZ=0
    . have e0:(x.cZ != 0)=false:=by simp[h0]
      rw[if_pos h0,List.append_nil]at hst;clear h0;go_wp2_with fail
      go_roundw
      case rel=>exact⟨i+1,a,c,by rw[hst.out],by go_num,by omega,by rw[hst.out];exact O2.out,M2.out,K2.out⟩
      case measure=>simp[intOf];omega
    . have e0:(x.cZ != 0)=true:=by simp[h0]
      rw[if_neg h0]at hst;clear h0
      go_wp2_with (first
       | (at_builtin;refine eB rfl _ _ 276 rfl 279 _ 3 24 Tryz.underlying276 zD rfl (by decide) a L.length c (qb L) rfl (O2.out.ct (dR _ (.cells #[I_ x.cZ,I_ x.xt,I_ x.j7] 279)) (fun _ _=>id)).1 ⟨w2.heap.size+1,0,none⟩ 1 1 x.cells rfl rfl ?c1 (PW x) ?c3 ?c4 ?_))
      case c1 =>
       have:=xp (w2.alloc (.cells #[I_ x.cZ,I_ x.xt,I_ x.j7] 279)) x;rw[World.size_alloc]at this;exact this
      case c3=>unfold maxLen;omega
      case c4=>omega
      intro a' c' w3 o3 k3 l3;have KA:=h_ ((K2.out.trans (dR _ (.cells #[I_ x.cZ,I_ x.xt,I_ x.j7] 279))).dh k3 (fun i hi e=>absurd (O2.out.2 i e) (by omega)))
      have O3:=h_ (show dP w w3 a' c' (L++[x]) from⟨by rw[xc,List.length_append];exact o3,fun g hg=>by
       rcases l3 with e | e <;> rw[e]at hg
       . exact O2.out.2 g hg
       . cases hg;omega⟩)
      clear k3 o3 l3;go_wp2_with fail
      go_roundw
      case rel=>exact⟨i+1,a',c',by rw[hst.out,List.length_append];rfl,by go_num,by omega,by rw[hst.out];exact O3.out,H.out.ct KA.out id id,KA.out⟩
      case measure=>simp[intOf];omega
  . have he:i=k:=by omega
    subst he;have hi1:¬ (i:Int)<(i:Int):=by omega
    go_wp2_with fail;go_ret
    rw[HR.out];exact⟨a,c,rfl,HO.out,HK.out⟩
theorem Ek{w:World}{b:Nat}{a0 a1 a2 a3 a4:Value}{t:TypeId}{f:Nat × Nat}(h:w.heap[b]?=some (.cells #[a0,a1,a2,a3,a4] t f))(x0 x1 x2 x3 x4:Value) :
 (((((w.setCell ⟨b,0,none⟩ x0).setCell ⟨b,1,none⟩ x1).setCell ⟨b,2,none⟩ x2).setCell ⟨b,3,none⟩ x3).setCell ⟨b,4,none⟩ x4).heap[b]?=some (.cells #[x0,x1,x2,x3,x4] t f):=by
 have h0:=cz (i:=0) h x0;have h1:=cz (i:=1) h0 x1;have h2:=cz (i:=2) h1 x2;have h3:=cz (i:=3) h2 x3;have h4:=cz (i:=4) h3 x4;simpa using h4
def mh(L:List gJ)(x p:gJ):Prop:=(x.cE=0/\p=⟨0,0,0,0,0⟩)\/(x.cE≠0/\p ∈ L/\p.cM=x.cE)
theorem qm(W w:World)(a:Option Addr)(c n:Nat)(L:List gJ)(x:gJ)(h:gM W w a c L)(hn:n<=L.length)(hb:L.length<=10000000)(hp:x.cE=0\/∃ i,∃ (hi:i<L.length),i<n/\L[i].cM=x.cE) :
 Calls Tryz.prog 106 #[.slice a n c,x.val] w fun e w'=>(∃ p,mh L x p/\e=.returned (.tuple #[p.val,.bool true]))/\K_ w w':=by
 have HO:=h_ h;have HP:=h_ hp;obtain⟨x0,x1,x2,x3,x4⟩:=x;have HX:Hid (∀ p,mh L ⟨x0,x1,x2,x3,x4⟩ p ↔ (x1=0/\p=⟨0,0,0,0,0⟩)\/(x1≠0/\p ∈ L/\p.cM=x1)):=fun p=>Iff.rfl
 generalize mh L ⟨x0,x1,x2,x3,x4⟩=IP at HX |-;unfold gJ.val;dsimp only at HP;clear h hp
 go_enter Tryz.func106,Tryz.ntmps106
 by_cases h0:x1=0
 . have e0:(x1 == 0)=true:=by simp[h0]
   have HI:=h_ ((HX.out ⟨0,0,0,0,0⟩).2 (.inl ⟨h0,rfl⟩));clear h0;go_wp2_with fail;exact bodyPost_ret (v:=.tuple #[.agg #[I_ 0,I_ 0,I_ 0,I_ 0,I_ 0],.bool true]) (by simp[results,Tryz.results106,go_sem]) rfl ⟨⟨_,HI.out,rfl⟩,(cq.alloc _ _ _).trans (cq.alloc _ _ _)⟩
 . have e0:(x1 == 0)=false:=by simp[h0]
   have hp:=HP.out.resolve_left h0;have H0:=h_ h0;have HQ:=h_ hp;clear h0 hp HP;go_wp2_with fail;have A0:=(dp (w.alloc (.cells #[I_ x0,I_ x1,I_ x2,I_ x3,I_ x4] 214)) (.cells #[I_ 0,I_ 0,I_ 0,I_ 0,I_ 0] 214) (by rw[World.size_alloc];omega)).trans (cx w (.cells #[I_ x0,I_ x1,I_ x2,I_ x3,I_ x4] 214))
   have B0:=cx (w.alloc (.cells #[I_ x0,I_ x1,I_ x2,I_ x3,I_ x4] 214)) (.cells #[I_ 0,I_ 0,I_ 0,I_ 0,I_ 0] 214);rw[World.size_alloc]at B0;have KV:=h_ ((dR w (.cells #[I_ x0,I_ x1,I_ x2,I_ x3,I_ x4] 214)).trans (dR _ (.cells #[I_ 0,I_ 0,I_ 0,I_ 0,I_ 0] 214)));generalize (w.alloc (.cells #[I_ x0,I_ x1,I_ x2,I_ x3,I_ x4] 214)).alloc (.cells #[I_ 0,I_ 0,I_ 0,I_ 0,I_ 0] 214)=V at KV A0 B0 |-;obtain⟨xb,hxb⟩:∃ xb,xb=w.heap.size:=⟨_,rfl⟩;obtain⟨pb,hpb⟩:∃ pb,pb=w.heap.size+1:=⟨_,rfl⟩;rw[<- hpb]at B0 |-;rw[<- hxb]at A0 |-;have HE:=h_ (show w.heap.size<=pb by omega)
   have HA:=h_ A0;have HB:=h_ B0;clear hxb hpb A0 B0
   go_loopw [14] (fun iv wr=>∃ (j:Nat),iv=I_ j/\j<=n/\(∀ (i:Nat) (hi:i<L.length),i<j->L[i].cM≠x1)/\K_ V wr)
    (fun iv _=>n-(intOf iv).toNat)
   case atStart=>exact⟨0,rfl,by omega,fun i hi h=>by omega,cq.refl _ _⟩
   case round =>
    obtain⟨j,rfl,hj,hq,hk⟩:=hrel;have HJ:=h_ hq;have HK:=h_ hk;clear hq hk;by_cases hlt:j<n
    . have hO:=HO.out.ct (KV.out.trans HK.out) (fun _ _=>id)
      have hjl:j<L.length:=by omega
      obtain⟨g,rfl,hnc,F⟩:=hO.get hjl;have F0:=F 0 (by omega)
      have F1:=F 1 (by omega)
      have F2:=F 2 (by omega)
      have F3:=F 3 (by omega)
      have F4:=F 4 (by omega)
      have c1:wr.cell? ⟨xb,1,none⟩=some (I_ x1):=HK.out.cell (cp (i:=1) HA.out rfl) id;have hlx:xb<wr.heap.size:=cA (HK.out.heap HA.out id);have HM:=h_ (List.getElem_mem hjl)
      have HN:=h_ (fun (e:L[j].cM≠x1) (i:Nat) (hi:i<L.length) (h:i<j+1)=>show L[i].cM≠x1 by
       by_cases h':i=j
       . subst h';exact e
       . exact HJ.out i hi (by omega))
      generalize L[j]=y at F0 F1 F2 F3 F4 HM HN;obtain⟨y0,y1,y2,y3,y4⟩:=y;simp only[gJ.sU,Nat.add_zero]at F0 F1 F2 F3 F4
      dsimp only at HN;have Vr:(j:Int)<(n:Int):=by omega
      clear F hO HJ;by_cases he:y0=x1
      . have e1:(y0 == x1)=true:=by simp[he]
        have HI:=h_ ((HX.out ⟨x1,y1,y2,y3,y4⟩).2 (.inr ⟨H0.out,he ▸ HM.out,rfl⟩));have P0:=HK.out.heap HB.out id;have hlp:pb<wr.heap.size:=cA P0;have b0:=cp (i:=0) P0 rfl;have b1:=cp (i:=1) P0 rfl;have b2:=cp (i:=2) P0 rfl;have b3:=cp (i:=3) P0 rfl;have b4:=cp (i:=4) P0 rfl;have hB2:=Ek P0 (I_ x1) (I_ y1) (I_ y2) (I_ y3) (I_ y4);have KF:=h_ ((KV.out.trans HK.out).dh ((((((cq.setCell (S:=fun k=>k=pb) wr ⟨pb,0,none⟩ (I_ x1) (fun _=>rfl)).trans (cq.setCell (S:=fun k=>k=pb) _ ⟨pb,1,none⟩ (I_ y1) (fun _=>rfl))).trans (cq.setCell (S:=fun k=>k=pb) _ ⟨pb,2,none⟩ (I_ y2) (fun _=>rfl))).trans (cq.setCell (S:=fun k=>k=pb) _ ⟨pb,3,none⟩ (I_ y3) (fun _=>rfl))).trans (cq.setCell (S:=fun k=>k=pb) _ ⟨pb,4,none⟩ (I_ y4) (fun _=>rfl)))) (fun i hi e=>by have:=HE.out;omega))
        have HB2:=h_ hB2;clear hB2;have f0:=cB (i:=0) P0;have f1:=cB (i:=1) P0;have f2:=cB (i:=2) P0;have f3:=cB (i:=3) P0;have f4:=cB (i:=4) P0;go_wp2_with fail;generalize ((((wr.setCell ⟨pb,0,none⟩ (I_ x1)).setCell ⟨pb,1,none⟩ (I_ y1)).setCell ⟨pb,2,none⟩ (I_ y2)).setCell ⟨pb,3,none⟩ (I_ y3)).setCell ⟨pb,4,none⟩ (I_ y4)=W5 at KF HB2 |-;have d0:W5.cell? ⟨pb,0,none⟩=some (I_ x1):=cp (i:=0) HB2.out rfl;have d1:W5.cell? ⟨pb,1,none⟩=some (I_ y1):=cp (i:=1) HB2.out rfl;have d2:W5.cell? ⟨pb,2,none⟩=some (I_ y2):=cp (i:=2) HB2.out rfl;have d3:W5.cell? ⟨pb,3,none⟩=some (I_ y3):=cp (i:=3) HB2.out rfl;have d4:W5.cell? ⟨pb,4,none⟩=some (I_ y4):=cp (i:=4) HB2.out rfl;have hlp:pb<W5.heap.size:=cA HB2.out;exact bodyPost_ret (v:=.tuple #[.agg #[I_ x1,I_ y1,I_ y2,I_ y3,I_ y4],.bool true]) (by simp[results,Tryz.results106,go_sem,d0,d1,d2,d3,d4,hlp]) rfl ⟨⟨_,HI.out,rfl⟩,KF.out.trans (cq.alloc _ _ _)⟩
      . have e1:(y0 == x1)=false:=by simp[he]
        have HJ2:=h_ (HN.out he);clear he HM HN;go_wp2_with fail
        go_roundw
        case rel=>exact⟨j+1,by go_num,by omega,HJ2.out,HK.out.trans (cq.alloc _ _ _)⟩
        case measure=>simp[intOf];omega
    . have hj':j=n:=by omega
      subst hj';obtain⟨i,hi,hin,he⟩:=HQ.out;exact absurd he (HJ.out i hi hin)
structure uX(m:Mem)(p c:gJ):Prop where
 t0 : -4611686018427387904<=c.table/\c.table<=4611686018427387904
 p0 : -4611686018427387904<=p.table/\p.table<=4611686018427387904
 cy:dj.cy m c.table≠0
 L8:∀ x ∈ dj.all m c.table,(dj.get m c.table x.cZ).2.2=true/\(dj.get m c.table x.cZ).1=x/\(x.j7=c.cM\/(c.cE≠0/\(dj.get m p.table x.cZ).2.2=true/\(dj.get m p.table x.cZ).1=x))
 up:c.cE≠0->∀ y ∈ dj.all m p.table,(dj.get m c.table y.cZ).2.2=true
theorem dj.qM(m:Mem)(t:Int):(dj.all m t).length<=1024:=by
 have h1:=dj.qc m t (dj.cy m t).toNat;have h2:=dj.iL m t;unfold dj.all;omega
theorem nR(w:World)(b bb:Nat)(m:Mem)(p c:gJ)(h:dY w b bb m)(hE:uX m p c) :
 Calls Tryz.prog 107 #[cD b,p.val,c.val] w fun e w'=>e=.returned (.bool true)/\K_ w w':=by
 have H:=h_ h;have HE:=h_ hE;obtain⟨p0,p1,p2,p3,p4⟩:=p;obtain⟨c0,c1,c2,c3,c4⟩:=c;have HS:=h_ fun w H=>sf w b bb m c3 H
 have HA:=h_ fun w H=>ua w b bb m c3 H hE.t0.1 hE.t0.2
 have HB:=h_ fun w H=>ua w b bb m p3 H hE.p0.1 hE.p0.2
 have XX:=h_ fun w s H=>EN w b bb m c3 s H
 have VE:=h_ fun w s H=>EN w b bb m p3 s H
 have hlc:=dj.qM m c3;have hlp:=dj.qM m p3;have d0:(dj.cy m c3 == 0)=false:=by have:=hE.cy;simpa using this
 have HC:=h_ (show ∀ x ∈ dj.all m c3,(dj.get m c3 x.cZ).2.2=true/\(dj.get m c3 x.cZ).1=x/\(x.j7=c0\/(c1≠0/\(dj.get m p3 x.cZ).2.2=true/\(dj.get m p3 x.cZ).1=x)) from hE.L8)
 have HU:=h_ (show c1≠0->∀ y ∈ dj.all m p3,(dj.get m c3 y.cZ).2.2=true from hE.up)
 generalize dj.cy m c3=ns at HS d0;generalize dj.all m c3=LC at HA HC hlc;generalize dj.all m p3=LP at HB HU hlp;unfold gJ.val;dsimp only;clear h hE HE
 go_enter Tryz.func107,Tryz.ntmps107
 go_wp2_with fail;have A0:=(dp (w.alloc (.cells #[I_ p0,I_ p1,I_ p2,I_ p3,I_ p4] 214)) (.cells #[I_ c0,I_ c1,I_ c2,I_ c3,I_ c4] 214) (by rw[World.size_alloc];omega)).trans (cx w (.cells #[I_ p0,I_ p1,I_ p2,I_ p3,I_ p4] 214))
 have B0:=cx (w.alloc (.cells #[I_ p0,I_ p1,I_ p2,I_ p3,I_ p4] 214)) (.cells #[I_ c0,I_ c1,I_ c2,I_ c3,I_ c4] 214);rw[World.size_alloc]at B0;have KV:=h_ ((dR w (.cells #[I_ p0,I_ p1,I_ p2,I_ p3,I_ p4] 214)).trans (dR _ (.cells #[I_ c0,I_ c1,I_ c2,I_ c3,I_ c4] 214)));generalize (w.alloc (.cells #[I_ p0,I_ p1,I_ p2,I_ p3,I_ p4] 214)).alloc (.cells #[I_ c0,I_ c1,I_ c2,I_ c3,I_ c4] 214)=V at KV A0 B0 |-;obtain⟨xb,hxb⟩:∃ xb,xb=w.heap.size:=⟨_,rfl⟩;obtain⟨pb,hpb⟩:∃ pb,pb=w.heap.size+1:=⟨_,rfl⟩;rw[<- hpb]at B0 |-;rw[<- hxb]at A0 |-;clear hxb hpb;have RV:=h_ (H.out.ct KV.out id id);have FA:=h_ A0;have FB:=h_ B0;have y3:V.cell? ⟨pb,3,none⟩=some (I_ c3):=cp (i:=3) B0 rfl;clear A0 B0 H;go_wp2_with fail;refine eD (HS.out _ RV.out) ?_;go_wp2_with fail;refine(HA.out _ RV.out).mono ?_;rintro e w1 ⟨sa,sc,rfl,oa,k1⟩;have OA:=h_ oa;have K1:=h_ k1;clear oa k1 y3 HS HA;go_wp2_with fail
 go_loopw [30] (fun iv wr=>∃ (i:Nat),iv=I_ i/\i<=LC.length/\K_ w1 wr) (fun iv _=>LC.length-(intOf iv).toNat)
 case atStart=>exact⟨0,rfl,by omega,cq.refl _ _⟩
 case round =>
  obtain⟨i,rfl,hi,hk⟩:=hrel;have KW:=h_ (K1.out.trans hk);have GK:=h_ hk;clear hk;have y3:wr.cell? ⟨pb,3,none⟩=some (I_ c3):=KW.out.cell (cp (i:=3) FB.out rfl) id;have y1:wr.cell? ⟨pb,1,none⟩=some (I_ c1):=KW.out.cell (cp (i:=1) FB.out rfl) id;have y0:wr.cell? ⟨pb,0,none⟩=some (I_ c0):=KW.out.cell (cp (i:=0) FB.out rfl) id;have z3:wr.cell? ⟨xb,3,none⟩=some (I_ p3):=KW.out.cell (cp (i:=3) FA.out rfl) id;have lp:pb<wr.heap.size:=cA (KW.out.heap FB.out id);have lx:xb<wr.heap.size:=cA (KW.out.heap FA.out id);by_cases hlt:i<LC.length
  . obtain⟨g,rfl,hnc,F⟩:=(OA.out.ct GK.out (fun _ _=>id)).get hlt
    have F0:=F 0 (by omega)
    have F1:=F 1 (by omega)
    have F2:=F 2 (by omega)
    obtain⟨q1,q2,q3⟩:=HC.out _ (List.getElem_mem hlt);generalize LC[i]=x at F0 F1 F2 q1 q2 q3;obtain⟨x0,x1,x2⟩:=x;simp only[jz.sU,Nat.add_zero]at F0 F1 F2
    dsimp only at q1 q2 q3;have GP:=h_ fun V hV=>VE.out V x0 hV
    have GC:=h_ fun V hV=>XX.out V x0 hV
    generalize dj.get m c3 x0=rc at GC q1 q2;generalize dj.get m p3 x0=rp at GP q3;obtain⟨ec,nc,bc⟩:=rc;obtain⟨⟨e0,e1,e2⟩,np,bp⟩:=rp;dsimp only at q1 q2 q3;subst q1 q2;unfold wD jz.val at GP GC;dsimp only at GP GC;have GL:(i:Int)<(LC.length:Int):=by omega
    have Q3:=h_ q3;have RW:=h_ (RV.out.ct KW.out id id);clear F q3;go_wp2_with fail;refine(GP.out _ (RW.out.dC _)).mono ?_;rintro e w2 ⟨rfl,k2⟩;have X2:=k2.heap (cx wr _) id;obtain⟨xg,hxg⟩:∃ xg,xg=wr.heap.size:=⟨_,rfl⟩;rw[<- hxg]at X2 |-;have KA:=(dR wr (.cells #[I_ x0,I_ x1,I_ x2] 279)).trans k2;have R2:=h_ (RW.out.ct KA id id);have K2:=h_ (KW.out.trans KA);have IY:=h_ (GK.out.trans KA);have MV:=h_ X2;have v3:w2.cell? ⟨pb,3,none⟩=some (I_ c3):=K2.out.cell (cp (i:=3) FB.out rfl) id;have u0:w2.cell? ⟨xg,0,none⟩=some (I_ x0):=cp (i:=0) X2 rfl;have lp2:pb<w2.heap.size:=cA (K2.out.heap FB.out id);have Qh:xg<w2.heap.size:=cA X2;clear k2 X2 KA y3 y1 y0 z3 lp lx F0 F1 F2 hxg GP RW;go_wp2_with fail;refine(GC.out _ (R2.out.dC _)).mono ?_;rintro e w3 ⟨rfl,k3⟩;have E3:=k3.heap (cx w2 _) id;obtain⟨eg,MW⟩:∃ eg,eg=w2.heap.size:=⟨_,rfl⟩;rw[<- MW]at E3 |-;have KB:=(dR w2 (.cells #[I_ e0,I_ e1,I_ e2] 279)).trans k3;have K3:=h_ (K2.out.trans KB);have IZ:=h_ (IY.out.trans KB);have X3:=KB.heap MV.out id;have t0:w3.cell? ⟨xg,0,none⟩=some (I_ x0):=cp (i:=0) X3 rfl;have t1:w3.cell? ⟨xg,1,none⟩=some (I_ x1):=cp (i:=1) X3 rfl;have t2:w3.cell? ⟨xg,2,none⟩=some (I_ x2):=cp (i:=2) X3 rfl;have s0:w3.cell? ⟨eg,0,none⟩=some (I_ e0):=cp (i:=0) E3 rfl;have s1:w3.cell? ⟨eg,1,none⟩=some (I_ e1):=cp (i:=1) E3 rfl;have s2:w3.cell? ⟨eg,2,none⟩=some (I_ e2):=cp (i:=2) E3 rfl;have Vs:xg<w3.heap.size:=cA X3;have Vx:eg<w3.heap.size:=cA E3;have Vy:pb<w3.heap.size:=cA (K3.out.heap FB.out id);have o0:w3.cell? ⟨pb,0,none⟩=some (I_ c0):=K3.out.cell (cp (i:=0) FB.out rfl) id;have o1:w3.cell? ⟨pb,1,none⟩=some (I_ c1):=K3.out.cell (cp (i:=1) FB.out rfl) id;clear k3 E3 X3 KB v3 u0 lp2 Qh MW GC R2 MV;by_cases hx:x2=c0
    . have f1:(x2 != c0)=false:=by simp[hx]
      clear hx;go_wp2_with fail
      go_roundw
      case rel=>exact⟨i+1,by go_num,by omega,IZ.out.trans (cq.alloc _ _ _)⟩
      case measure=>simp[intOf];omega
    . obtain⟨n1,n2,n3⟩:=Q3.out.resolve_left hx
      have f1:(x2 != c0)=true:=by simp[hx]
      have f2:(c1 == 0)=false:=by simp[n1]
      subst n2;injection n3 with n3 n4 n5
      subst n3 n4 n5;clear hx n1;go_wp2_with fail
      go_roundw
      case rel=>exact⟨i+1,by go_num,by omega,IZ.out.trans (cq.alloc _ _ _)⟩
      case measure=>simp[intOf];omega
  . have hi':i=LC.length:=by omega
    subst hi';have GL:¬ (LC.length:Int)<(LC.length:Int):=by omega
    by_cases h1:c1=0
    . have f1:(c1 == 0)=true:=by simp[h1]
      clear h1;go_wp2_with fail;go_ret
      exact⟨rfl,KV.out.trans KW.out⟩
    . have f1:(c1 == 0)=false:=by simp[h1]
      have Qi:=h_ (HU.out h1);have RW:=h_ (RV.out.ct KW.out id id);clear h1 y0;go_wp2_with fail;refine(HB.out _ RW.out).mono ?_;rintro e w2 ⟨ta,tc,rfl,ob,k2⟩;have OB:=h_ ob;have K2:=h_ (KW.out.trans k2);clear ob k2 y1 y3 z3 lp lx HB HC HU;go_wp2_with fail
      go_loopw [91] (fun iv wq=>∃ (i:Nat),iv=I_ i/\i<=LP.length/\K_ w2 wq) (fun iv _=>LP.length-(intOf iv).toNat)
      case atStart=>exact⟨0,rfl,by omega,cq.refl _ _⟩
      case round =>
       obtain⟨i,rfl,hi,hk⟩:=hrel;have KX:=h_ (K2.out.trans hk);have M0:=h_ hk;clear hk;by_cases hlt:i<LP.length
       . obtain⟨g,rfl,hnc,F⟩:=(OB.out.ct M0.out (fun _ _=>id)).get hlt
         have F0:=F 0 (by omega)
         have F1:=F 1 (by omega)
         have F2:=F 2 (by omega)
         have q1:=Qi.out _ (List.getElem_mem hlt);generalize LP[i]=x at F0 F1 F2 q1;obtain⟨x0,x1,x2⟩:=x;simp only[jz.sU,Nat.add_zero]at F0 F1 F2
         dsimp only at q1;have GC:=h_ fun V hV=>XX.out V x0 hV
         generalize dj.get m c3 x0=rc at GC q1;obtain⟨⟨e0,e1,e2⟩,nc,bc⟩:=rc;dsimp only at q1;subst q1;unfold wD jz.val at GC;dsimp only at GC;have GL:(i:Int)<(LP.length:Int):=by omega
         have RX:=h_ (RV.out.ct KX.out id id);have y3:wr.cell? ⟨pb,3,none⟩=some (I_ c3):=KX.out.cell (cp (i:=3) FB.out rfl) id;have lp:pb<wr.heap.size:=cA (KX.out.heap FB.out id);clear F;go_wp2_with fail;refine(GC.out _ (RX.out.dC _)).mono ?_;rintro e w4 ⟨rfl,k4⟩;have KY:=h_ ((M0.out.trans (dR wr (.cells #[I_ x0,I_ x1,I_ x2] 279))).trans k4);clear k4 y3 F0 F1 F2 lp;go_wp2_with fail
         go_roundw
         case rel=>exact⟨i+1,by go_num,by omega,KY.out.trans (cq.alloc _ _ _)⟩
         case measure=>simp[intOf];omega
       . have hi':i=LP.length:=by omega
         subst hi';have GL:¬ (LP.length:Int)<(LP.length:Int):=by omega
         go_wp2_with fail;go_ret
         exact⟨rfl,KV.out.trans KX.out⟩
structure ri(m:Mem)(L:List gJ):Prop where
 cg:∀ i,(hi:i<L.length)->L[i].cE=0\/∃ j,∃ (hj:j<L.length),j<i/\L[j].cM=L[i].cE
 size:∀ x ∈ L,8<=x.size/\x.size % 8=0
 up:∀ x ∈ L,∀ p,mh L x p->p.size<=x.size/\uX m p x
theorem ck(w:World)(b bb:Nat)(m:Mem)(root:Int)(h:dY w b bb m)(hS:ri m (Class.all m root)) :
 Calls Tryz.prog 61 #[cD b,I_ root] w fun e w'=>e=.returned (I_ 0)/\K_ w w':=by
 have H:=h_ h;have hle:=h.le;have hlen:=Class.qM m root;have HA:=h_ (sj w b bb m root h);have HP:=h_ fun (V:World) a c n x (hO:gM w V a c (Class.all m root)) hn hp=>qm w V a c n (Class.all m root) x hO hn (by omega) hp
 have HE:=h_ fun V p c hV hE=>nR V b bb m p c hV hE
 have HS:=h_ hS;generalize Class.all m root=L at HA HP HS hlen;clear h hS
 go_enter Tryz.func61,Tryz.ntmps61
 go_wp2_with fail;refine HA.out.mono ?_;rintro e w1 ⟨sa,sc,rfl,oa,k1⟩;have OA:=h_ oa;have K1:=h_ k1;clear oa k1 HA;go_wp2_with fail
 go_loopw [15] (fun iv wr=>∃ (i:Nat),iv=I_ i/\i<=L.length/\K_ w1 wr) (fun iv _=>L.length-(intOf iv).toNat)
 case atStart=>exact⟨0,rfl,by omega,cq.refl _ _⟩
 case round =>
  obtain⟨i,rfl,hi,hk⟩:=hrel;have KW:=h_ (K1.out.trans hk);have GK:=h_ hk;clear hk;by_cases hlt:i<L.length
  . have hO:=OA.out.ct GK.out (fun _ _=>id)
    obtain⟨g,rfl,hnc,F⟩:=hO.get hlt;have F0:=F 0 (by omega)
    have F1:=F 1 (by omega)
    have F2:=F 2 (by omega)
    have F3:=F 3 (by omega)
    have F4:=F 4 (by omega)
    have HO:=h_ hO;have h1:=HS.out.cg i hlt;have h2:=HS.out.size _ (List.getElem_mem hlt);have h3:=HS.out.up _ (List.getElem_mem hlt);generalize L[i]=x at F0 F1 F2 F3 F4 h1 h2 h3;obtain⟨x0,x1,x2,x3,x4⟩:=x;simp only[gJ.sU,Nat.add_zero]at F0 F1 F2 F3 F4
    dsimp only at h1 h2 h3;obtain⟨Vz,Qp⟩:=h2;have W6:=h_ h1;have HU:=h_ h3;have GL:(i:Int)<(L.length:Int):=by omega
    have f1:decide (x2<8)=false:=decide_eq_false (by omega)
    have f2:(x2.tmod 8 != 0)=false:=by
     rw[Int.tmod_eq_emod_of_nonneg (by omega),Qp];rfl
    clear F hO h1 h3;go_wp2_with fail;have A0:=cx wr (.cells #[I_ x0,I_ x1,I_ x2,I_ x3,I_ x4] 214);have KA:=dR wr (.cells #[I_ x0,I_ x1,I_ x2,I_ x3,I_ x4] 214);generalize wr.alloc (.cells #[I_ x0,I_ x1,I_ x2,I_ x3,I_ x4] 214)=V at A0 KA |-;obtain⟨xb,hxb⟩:∃ xb,xb=wr.heap.size:=⟨_,rfl⟩;rw[<- hxb]at A0 |-;have z0:V.cell? ⟨xb,0,none⟩=some (I_ x0):=cp (i:=0) A0 rfl;have z1:V.cell? ⟨xb,1,none⟩=some (I_ x1):=cp (i:=1) A0 rfl;have z2:V.cell? ⟨xb,2,none⟩=some (I_ x2):=cp (i:=2) A0 rfl;have z3:V.cell? ⟨xb,3,none⟩=some (I_ x3):=cp (i:=3) A0 rfl;have z4:V.cell? ⟨xb,4,none⟩=some (I_ x4):=cp (i:=4) A0 rfl;have lx:xb<V.heap.size:=cA A0;have Qw:=h_ A0;have K2:=h_ (KW.out.trans KA);have IY:=h_ (GK.out.trans KA);have HQ:=h_ (show ∀ W,K_ V W->Calls Tryz.prog 106 #[.slice (some ⟨g,0,none⟩) i sc,.agg #[I_ x0,I_ x1,I_ x2,I_ x3,I_ x4]] W fun e w'=>(∃ p,mh L ⟨x0,x1,x2,x3,x4⟩ p/\e=.returned (.tuple #[p.val,.bool true]))/\K_ W w' from fun W k=>HP.out W (some ⟨g,0,none⟩) sc i ⟨x0,x1,x2,x3,x4⟩ ((HO.out.ct KA (fun _ _=>id)).ct k (fun _ _=>id)) hi W6.out)
    have hic:(i:Int)<=(sc:Int):=by omega
    have hi0:(0:Int)<=(i:Int):=by omega
    clear A0 KA hxb F0 F1 F2 F3 F4 HO W6
    go_cut [8,9] (fun v8 v9 wx=>∃ (q:Nat) (p0 p1 p2 p3 p4:Int),v8=cD q/\v9=.bool true/\mh L ⟨x0,x1,x2,x3,x4⟩ ⟨p0,p1,p2,p3,p4⟩/\wx.heap[q]?=some (.cells #[I_ p0,I_ p1,I_ p2,I_ p3,I_ p4] 214 (0,0))/\K_ V wx)
    case first =>
     go_region_held3 (fun W=>W.cell? ⟨xb,0,none⟩=some (I_ x0)/\W.cell? ⟨xb,1,none⟩=some (I_ x1)/\W.cell? ⟨xb,2,none⟩=some (I_ x2)/\W.cell? ⟨xb,3,none⟩=some (I_ x3)/\W.cell? ⟨xb,4,none⟩=some (I_ x4))
      (first | (go_keep;done))
      (first
        | (go_at_call 106;with_reducible refine(HQ.out (V.alloc (.cells #[I_ 0,I_ 0,I_ 0,I_ 0,I_ 0] 214)).drew ((dR V (.cells #[I_ 0,I_ 0,I_ 0,I_ 0,I_ 0] 214)).trans (cq.drew _ _))).mono ?_;rintro e w2 ⟨⟨⟨p0,p1,p2,p3,p4⟩,hp,rfl⟩,k2⟩;dsimp only[gJ.val]
           have ks:=((dR V (.cells #[I_ 0,I_ 0,I_ 0,I_ 0,I_ 0] 214)).trans (fw _)).trans k2;have hz:=k2.heap (show((V.alloc (.cells #[I_ 0,I_ 0,I_ 0,I_ 0,I_ 0] 214)).drew).heap[V.heap.size]?=_ from cx V _) id
           have t0:w2.cell? ⟨xb,0,none⟩=some (I_ x0):=ks.cell z0 id;have t1:w2.cell? ⟨xb,1,none⟩=some (I_ x1):=ks.cell z1 id;have t2:w2.cell? ⟨xb,2,none⟩=some (I_ x2):=ks.cell z2 id;have t3:w2.cell? ⟨xb,3,none⟩=some (I_ x3):=ks.cell z3 id;have t4:w2.cell? ⟨xb,4,none⟩=some (I_ x4):=ks.cell z4 id;have hne:xb≠V.heap.size:=by omega
           have hne':V.heap.size≠xb:=by omega
           have hlz:V.heap.size<w2.heap.size:=cA hz;have g0:w2.cell? ⟨V.heap.size,0,none⟩=some (I_ 0):=cp hz rfl;have g1:w2.cell? ⟨V.heap.size,1,none⟩=some (I_ 0):=cp hz rfl;have g2:w2.cell? ⟨V.heap.size,2,none⟩=some (I_ 0):=cp hz rfl;have g3:w2.cell? ⟨V.heap.size,3,none⟩=some (I_ 0):=cp hz rfl;have g4:w2.cell? ⟨V.heap.size,4,none⟩=some (I_ 0):=cp hz rfl;have r0:=cB (i:=0) hz;have r1:=cB (i:=1) hz;have r2:=cB (i:=2) hz;have r3:=cB (i:=3) hz
           have r4:=cB (i:=4) hz)
        | (go_at_call 106;with_reducible refine(HQ.out V.drew (cq.drew _ _)).mono ?_;rintro e w2 ⟨⟨⟨p0,p1,p2,p3,p4⟩,hp,rfl⟩,k2⟩;dsimp only[gJ.val]
           have ks:=(fw V).trans k2;have t0:w2.cell? ⟨xb,0,none⟩=some (I_ x0):=ks.cell z0 id;have t1:w2.cell? ⟨xb,1,none⟩=some (I_ x1):=ks.cell z1 id;have t2:w2.cell? ⟨xb,2,none⟩=some (I_ x2):=ks.cell z2 id;have t3:w2.cell? ⟨xb,3,none⟩=some (I_ x3):=ks.cell z3 id
           have t4:w2.cell? ⟨xb,4,none⟩=some (I_ x4):=ks.cell z4 id))
     all_goals
      go_wp2_with fail
      go_meet
      refine⟨_,p0,p1,p2,p3,p4,rfl,rfl,hp,?_⟩
      first
       | exact⟨Ek (b:=V.heap.size) hz (I_ p0) (I_ p1) (I_ p2) (I_ p3) (I_ p4),(((((ks.dW ⟨V.heap.size,0,none⟩ (I_ p0) (Nat.le_refl _)).dW ⟨V.heap.size,1,none⟩ (I_ p1) (Nat.le_refl _)).dW ⟨V.heap.size,2,none⟩ (I_ p2) (Nat.le_refl _)).dW ⟨V.heap.size,3,none⟩ (I_ p3) (Nat.le_refl _)).dW ⟨V.heap.size,4,none⟩ (I_ p4) (Nat.le_refl _))⟩
       | exact⟨cx w2 (.cells #[I_ p0,I_ p1,I_ p2,I_ p3,I_ p4] 214),ks.trans (dR w2 (.cells #[I_ p0,I_ p1,I_ p2,I_ p3,I_ p4] 214))⟩
    case rest =>
     obtain⟨q,p0,p1,p2,p3,p4,rfl,rfl,hp,hq,kc⟩:=hcut;obtain⟨u1,u2⟩:=HU.out ⟨p0,p1,p2,p3,p4⟩ hp;have f3:decide (x2<p2)=false:=decide_eq_false (by show ¬ x2<p2;have:p2<=x2:=u1;omega)
     have y0:wc.cell? ⟨q,0,none⟩=some (I_ p0):=cp (i:=0) hq rfl;have y1:wc.cell? ⟨q,1,none⟩=some (I_ p1):=cp (i:=1) hq rfl;have y2:wc.cell? ⟨q,2,none⟩=some (I_ p2):=cp (i:=2) hq rfl;have y3:wc.cell? ⟨q,3,none⟩=some (I_ p3):=cp (i:=3) hq rfl;have y4:wc.cell? ⟨q,4,none⟩=some (I_ p4):=cp (i:=4) hq rfl;have v0:wc.cell? ⟨xb,0,none⟩=some (I_ x0):=kc.cell z0 id;have v1:wc.cell? ⟨xb,1,none⟩=some (I_ x1):=kc.cell z1 id;have v2:wc.cell? ⟨xb,2,none⟩=some (I_ x2):=kc.cell z2 id;have v3:wc.cell? ⟨xb,3,none⟩=some (I_ x3):=kc.cell z3 id;have v4:wc.cell? ⟨xb,4,none⟩=some (I_ x4):=kc.cell z4 id;have K3:=h_ (K2.out.trans kc);have IZ:=h_ (IY.out.trans kc);have HE2:=h_ (show ∀ W,dY W b bb m->Calls Tryz.prog 107 #[cD b,.agg #[I_ p0,I_ p1,I_ p2,I_ p3,I_ p4],.agg #[I_ x0,I_ x1,I_ x2,I_ x3,I_ x4]] W fun e w'=>e=.returned (.bool true)/\K_ W w' from fun W hW=>HE.out W ⟨p0,p1,p2,p3,p4⟩ ⟨x0,x1,x2,x3,x4⟩ hW u2)
     have RM:=h_ (H.out.ct K3.out id id);clear hp hq kc u1 u2 HU z0 z1 z2 z3 z4 lx Qw K2 IY HQ HE HP;go_wp2_with fail;refine(HE2.out _ RM.out).mono ?_;rintro e w4 ⟨rfl,k4⟩;have K4:=h_ (IZ.out.trans k4);clear k4 y0 y1 y2 y3 y4 v0 v1 v2 v3 v4;go_wp2_with fail
     go_roundw
     case rel=>exact⟨i+1,by go_num,by omega,K4.out⟩
     case measure=>simp[intOf];omega
  . have hi':i=L.length:=by omega
    subst hi';have GL:¬ (L.length:Int)<(L.length:Int):=by omega
    go_wp2_with fail;go_ret
    exact⟨rfl,KW.out⟩
namespace Class
namespace Good
variable {m:Mem} {root:Int} {A T:List Int} {L:List dr} {hi:Int}
theorem u'(h:Good m root A T L hi){i:Nat}(i1:i<(Class.all m root).length):i<L.length/\(Class.all m root)[i]=jr A T L i:=by
 have e:=h.all;have hl:(Class.all m root).length=L.length:=by rw[e];simp
 refine⟨by omega,?_⟩
 simp[e]
theorem oe(h:Good m root A T L hi){x:gJ}(hx:x ∈ Class.all m root):∃ i,i<L.length/\x=jr A T L i:=by
 rw[h.all]at hx;obtain⟨i,hi,rfl⟩:=List.mem_map.1 hx;exact⟨i,List.mem_range.1 hi,rfl⟩
theorem rv(h:Good m root A T L hi){i:Nat}(i1:i<L.length){e:jz}(he:e ∈ dj.all m (dG T i)):dj.look m (dG T i) e.cZ=some e:=by
 have hf:=h.yB i i1;unfold dj.all dj.iA at he;obtain⟨h1,h2⟩:=List.mem_filter.1 he;obtain⟨k,hk,rfl⟩:=List.mem_map.1 h1;have hk:=List.mem_range.1 hk;have h2:(dj.cT m (dG T i) (k:Nat)).cZ≠0:=of_decide_eq_true h2;have hn:=hf.1;have hkn:(k:Int)<(Ref.get L i).cy:=by omega
 exact dj.mJ hf k _ (by omega) hkn rfl (hf.2.2 k (by omega) hkn h2).1
theorem o7(h:Good m root A T L hi){i:Nat}(i1:i<L.length)(s:Int):Ref.dH L i s=match Ref.own (Ref.get L i).own s with
 | some xt=>some (xt,(i:Int))
 | none=>Ref.dH L (Ref.get L i).cE s:=Ref.lu L h.uD i s i1
theorem G0(h:Good m root A T L hi)(hs:∀ j:Nat,j<L.length->(Ref.get L j).size=8):ri m (Class.all m root):=by
 have htop:=h.uE;have hrt:=h.rt;refine⟨fun i hi=>?_,fun x hx=>?_,fun x hx p hp=>?_⟩
 . obtain⟨i1,e⟩:=h.u' hi
   rw[e];have hp:=Ref.cg L h.uD i i1;by_cases hn:(Ref.get L i).cE<0
   . exact .inl (by show iq A _=0;unfold iq;rw[if_pos hn])
   . have hl:(Class.all m root).length=L.length:=by rw[h.all];simp
     refine .inr ⟨(Ref.get L i).cE.toNat,by omega,by omega,?_⟩
     rw[(h.u' (i:=(Ref.get L i).cE.toNat) (by omega)).2]
     show dG A _=iq A _
     unfold iq;rw[if_neg hn]
 . obtain⟨i,i1,rfl⟩:=h.oe hx
   show 8<=(Ref.get L i).size/\(Ref.get L i).size % 8=0
   rw[hs i i1];exact⟨Int.le_refl _,rfl⟩
 . obtain⟨i,i1,rfl⟩:=h.oe hx
   have hf:=h.yB i i1;have Qx:=h.zY i i1;have hsl:=h.cy i i1;have hpi:=h.pos i1;have hpar:=Ref.cg L h.uD i i1;have xw:dj.cy m (dG T i)≠0:=by rw[hf.1];omega
   have hent:∀ e ∈ dj.all m (dG T i),(dj.get m (dG T i) e.cZ).2.2=true/\(dj.get m (dG T i) e.cZ).1=e/\∃ q,Ref.dH L i e.cZ=some q/\e=⟨e.cZ,q.1,iq A q.2⟩:=by
    intro e he;have hl:=h.rv i1 he;refine⟨by rw[dj.zX,hl];rfl,dj.uz hl,?_⟩
    rw[h.sS i i1]at hl;obtain⟨q,hq,hq2⟩:=Option.map_eq_some_iff.1 hl;exact⟨q,hq,hq2.symm⟩
   rcases hp with⟨h0,rfl⟩ | ⟨h0,hm,ha⟩
   . have h0:iq A (Ref.get L i).cE=0:=h0
     have hneg:(Ref.get L i).cE<0:=by
      by_cases hn:(Ref.get L i).cE<0
      . exact hn
      . unfold iq at h0
        rw[if_neg hn]at h0;have:=h.pos (i:=(Ref.get L i).cE.toNat) (by omega)
        omega
     refine⟨by show(0:Int)<=(Ref.get L i).size;rw[hs i i1];decide,⟨by show _<=dG T i/\dG T i<=_;omega,by show _<=(0:Int)/\(0:Int)<=_;omega,xw,fun e he=>?_,fun hne=>absurd h0 hne⟩⟩
     obtain⟨g1,g2,q,g3,g4⟩:=hent e he;refine⟨g1,g2,.inl ?_⟩;rw[h.o7 i1]at g3
     cases ho:Ref.own (Ref.get L i).own e.cZ with
     | none=>rw[ho,Ref.gD _ _ _ hneg]at g3;cases g3
     | some xt =>
      rw[ho]at g3;injection g3 with g3
      subst g3;rw[g4]
      show iq A (i:Int)=dG A i
      exact iw i
   . obtain⟨k,k1,rfl⟩:=h.oe hm
     have ha:dG A k=iq A (Ref.get L i).cE:=ha
     have hnn:¬ (Ref.get L i).cE<0:=by
      intro hn;refine h0 ?_
      show iq A _=0
      unfold iq;rw[if_pos hn]
     obtain⟨k',hk'⟩:∃ k':Nat,(Ref.get L i).cE=(k':Int):=⟨(Ref.get L i).cE.toNat,by omega⟩
     rw[hk',iw]at ha;obtain rfl:k=k':=h.inj k1 (by omega) ha
     have hlk:=h.zY k k1;have hsk:=h.cy k k1;have hpk:=h.pos k1;refine⟨by show(Ref.get L k).size<=(Ref.get L i).size;rw[hs i i1,hs k k1];exact Int.le_refl _,⟨by show _<=dG T i/\dG T i<=_;omega,by show _<=dG T k/\dG T k<=_;omega,xw,fun e he=>?_,fun _ y hy=>?_⟩⟩
     . obtain⟨g1,g2,q,g3,g4⟩:=hent e he
       refine⟨g1,g2,?_⟩;rw[h.o7 i1]at g3
       cases ho:Ref.own (Ref.get L i).own e.cZ with
       | none =>
        rw[ho,hk']at g3;have g3:Ref.dH L (k:Int) e.cZ=some q:=g3;have hl:dj.look m (dG T k) e.cZ=some e:=by rw[h.sS k k1,g3,g4];rfl
        refine .inr ⟨h0,?_,dj.uz hl⟩
        show(dj.get m (dG T k) e.cZ).2.2=true
        rw[dj.zX,hl];rfl
       | some xt =>
        rw[ho]at g3;injection g3 with g3
        subst g3;refine .inl ?_;rw[g4]
        show iq A (i:Int)=dG A i
        exact iw i
     . have hl:=h.rv k1 hy
       rw[h.sS k k1]at hl;obtain⟨q,hq,_⟩:=Option.map_eq_some_iff.1 hl
       show(dj.get m (dG T i) y.cZ).2.2=true
       rw[dj.zX,h.sS i i1,h.o7 i1]
       cases ho:Ref.own (Ref.get L i).own y.cZ with
       | none =>
        rw[hk']
        show(Option.map _ (Ref.dH L (k:Int) y.cZ)).isSome=true
        rw[hq];rfl
       | some xt=>rfl
end Good
end Class
end Go.Proofs.dS
