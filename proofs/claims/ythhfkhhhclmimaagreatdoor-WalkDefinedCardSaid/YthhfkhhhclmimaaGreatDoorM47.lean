/- A part of WalkG. No condition. -/
import Derived.Test.YthhfkhhhclmimaaGreatDoorM46
import Derived.Test.YthhfkhhhclmimaaGreatDoorM52
set_option linter.unusedVariables false
set_option linter.unusedSimpArgs false
open Go.Proofs.Tryz
set_option maxRecDepth 10000
set_option maxHeartbeats 4000000
namespace Go.Proofs.dS
open Go Go.RowKit Go.Proofs.K Go.Proofs.tI
section
variable (G:Gk) (F:Fk) (w:World) (Z:Nat->Prop) (q:Rd × Oo)
theorem Uj(d:Wd)(a:Int)(c:0<=d.cM)(e:d.cM<=4194304)(f:0<=a)(g:a<=255)(h:RJ (RO G F) G w Z q):Calls prog 37 #[cD G.K.b,d.val,I_ a] w (PJ (RO G F) G Z w (((q.1.mark d a).1,q.2),(q.1.mark d a).2)):=h.wU (fun X i _=>FZ G X w q.1 d a c e f g i)
theorem zH(i:q.2.eH=[])(h:RJ (RO G F) G w Z q):Calls prog 161 #[cD F.fb] w (PJ (RO G F) G Z w (Oo.iS q)):=by
 have b:Oo.iS q=if Oo.iK q=false then(q,-22)else(({ (q.1.mark q.2.dA 0).1 with eE:=[q.1.v.cF] }.oB,{ q.2 with eN:=0,eH:=[] }),0):=by unfold Oo.iS;rw[i];rfl
 have p:=h_ (sN G F w Z q h);generalize Oo.iS q=ak at b |-;cases j:Oo.iK q with
 | false =>
  rw[j]at p;rw[if_pos j]at b;subst b;have a:=h_ h;have o:=h_ (ef.refl w Z);clear h j i;go_enter func161,ntmps161;go_wp2_with fail;refine p.out.mono ?_;rintro e w' ⟨rfl,rfl⟩;go_wp2_with fail;go_ret;exact⟨rfl,_,a.out,o.out⟩
 | true =>
  rw[j]at p;rw[if_neg (by simp[j])]at b;obtain⟨r,x⟩:=q;dsimp only at i b;have u:=h.Jl;dsimp only at u;have f:=h_ fun V P (hV:RJ (RO G F) G V P (r,x))=>Uj G F V P (r,x) x.dA 0 u.dA.1 u.dA.2 (by decide) (by decide) hV;have t:(r.mark x.dA 0).1.v.cF=r.v.cF:=rfl;dsimp only at f;generalize r.mark x.dA 0=m at f b t;obtain⟨r1,e1⟩:=m;dsimp only at f b t;have HQ:=h_ b;have ab:=h_ t;obtain⟨a9,c9,s⟩:=h.f9;dsimp only at s;rw[i]at s;have HA:=h_ i;have a:=h_ h;have o:=h_ (ef.refl w Z);have n:=a.out.f0;have D:=a.out.f4;have E:=a.out.f5;have H:=a.out.f6;have I:=a.out.f7;have l:=a.out.o0;have v0:=a.out.v0;have vs:=a.out.vs;dsimp only at D E H I;unfold Wd.val at f;clear h j b t i;go_enter func161,ntmps161;go_wp2_with fail;refine p.out.mono ?_;rintro e w' ⟨rfl,rfl⟩;go_wp2_with fail
  go_loopw [15] (fun iv wr=>iv=I_ 0/\wr=w) (fun _ _=>0)
  case atStart=>exact⟨rfl,rfl⟩
  case round =>
   obtain⟨rfl,rfl⟩:=hrel;go_wp2_with fail;go_still_tail 17,(by kernel_rfl);try change wpList _ _ _ _ _ wr.drew
   have C:=h_ (a.out.eL (fw wr));have B:=h_ (o.out.trans (ef.kt (fw wr)));try clear l;try clear n;try clear D;try clear E;try clear H;try clear I;try clear s;try clear v0;try clear vs
   generalize wr.drew=w1 at C B |-;go_wp2_with fail;refine ir (f.out _ _ C.out) B ?_;intro A Z2 d L;try clear l;try clear n;try clear D;try clear E;try clear H;try clear I;try clear s;try clear v0;try clear vs
   have k:=d.out.Jl;dsimp only at k;have Q:=d.out.f3;obtain⟨b9,d9,R⟩:=d.out.f9;have q3:=d.out.ff 3;have q9:=d.out.ff 9;dsimp only at Q R;have ks:cq (fun g=>g=F.fb) A ((A.setCell ⟨F.fb,3,none⟩ (I_ 0)).setCell ⟨F.fb,9,none⟩ (.slice none 0 0)):=(gh A F.fb 3 (I_ 0)).trans (gh _ F.fb 9 (.slice none 0 0));obtain⟨Z3,S,W⟩:=d.out.Nn (x':={ x with eN:=0,eH:=[] }) ks (fun aj hD=>cz (cz hD _) _) ⟨rfl,rfl,rfl,rfl⟩ ⟨⟨Int.le_refl _,by show(0:Int)<=_;decide⟩,k.dA,k.target,by show(0:Nat)<=_;decide,k.vW,k.rQ⟩;have c:=h_ S;have M:=h_ (L.out.trans W);clear ks S W u k f a o C B;go_upto_region 12 with fail;generalize ((A.setCell ⟨F.fb,3,none⟩ (I_ 0)).setCell ⟨F.fb,9,none⟩ (.slice none 0 0))=w3 at c M |-;clear Q R q3 q9 d L;obtain⟨y,J⟩:∃ y,y=r1.v.cF:=⟨_,rfl⟩;have aa:=h_ J;have n:=c.out.f0;have l:=c.out.o0;have z:=c.out.v8;dsimp only at z;rw[<- J]at z;clear J;have ad:=World.block_lt_of_cell? _ _ l;have ae:=World.block_lt_of_cell? _ _ z;obtain⟨a2,c2,o2⟩:=c.out.Tc;have q2:=c.out.vX 2;have af:=c.out.Eu;obtain⟨ag,ah,ai⟩:=c.out.bne;have ac:=c.out.I3
   go_region_held3 (fun V=>C_ V F.fb 0=some (cD G.ob)/\C_ V G.ob 0=some (cD G.K.mb)/\C_ V G.K.mb 8=some (I_ y))
    (first | (go_keep;done) | (simp[*,World.cell?_alloc_some,World.cell?_setCell_far,oh];done) | (refine⟨?_,?_,?_⟩ <;> first | (go_keep;done) | exact Ev l))
    (fail)
   obtain⟨Z4,T,X⟩:=c.out.uf y;have O:=h_ T;have E4:=h_ (M.out.trans X);clear T X n l z o2 q2 af ag ah ai ac ad ae;have N:=h_ (QU G F _ _ _ O.out);dsimp only at N;have n:=O.out.f0;go_wp2_with fail;refine N.out.mono ?_;rintro e w5 ⟨rfl,Z5,U,Y⟩;have J5:=h_ U;have E5:=h_ (E4.out.trans Y);clear U Y;have b:=HQ.out;rw[<- ab.out,<- aa.out]at b;subst b;go_wp2_with fail;go_ret;exact⟨rfl,_,J5.out,E5.out⟩
structure GF(G:Gk)(F:Fk):Prop where
 fm:∀ low k,gr low=some k->G.fm low=some (.func (.func 172) #[] #[cD (F.gs low),cD F.gf])
 no:∀ low,gr low=none->G.fm low=none
 reset:G.reset=ja F.fb
end
structure N1(w0:World)(H:Nat)(K:Bk)(im:Nat)(v:VM)(w:World):Prop where
 fv:dZ w K v
 nm:tn w K.nb im 1024
 all:∀ g,K.all g->w0.heap.size<=g/\g<H
 nb:w0.heap.size<=K.nb/\K.nb<H/\¬ K.all K.nb
 Qt:w0.heap.size<=im/\im<H/\¬ K.all im
theorem N1.ct{e w w':World}{H:Nat}{K:Bk}{d:Nat}{v:VM}(h:N1 e H K d v w){S:Nat->Prop}(k:cq S w w')(b:∀ g,g<H->¬ S g):N1 e H K d v w':=by
 have a:∀ g,K.all g->¬ S g:=fun g c=>b g (h.all g c).2
 exact⟨h.fv.ct k ⟨a _ (.inl (.inl rfl)),a _ (.inl (.inr (.inl rfl))),a _ (.inr (.inl rfl)),a _ (.inl (.inr (.inr (.inl rfl)))),a _ (.inl (.inr (.inr (.inr (.inl rfl))))),a _ (.inl (.inr (.inr (.inr (.inr rfl))))),a _ (.inr (.inr (.inl rfl))),a _ (.inr (.inr (.inr (.inl rfl))))⟩ (fun g c=>a g (.inr (.inr (.inr (.inr c))))),
  h.nm.ct k (b _ h.nb.2.1) (b _ h.Qt.2.1),h.all,h.nb,h.Qt⟩
theorem N1.Uk{d e w:World}{H:Nat}{K:Bk}{c:Nat}{v:VM}(h:N1 e H K c v d)(a:w.heap.size<=e.heap.size):N1 w H K c v d :=
 ⟨h.fv,h.nm,fun g b=>⟨Nat.le_trans a (h.all g b).1,(h.all g b).2⟩,⟨Nat.le_trans a h.nb.1,h.nb.2⟩,⟨Nat.le_trans a h.Qt.1,h.Qt.2⟩⟩
theorem zb.nx{p o q M v:Int}{E:List UInt8}{S:Mem}{V y:Sp}{x A F B:Int}{w w':World}{e:Ending}(h:zb p o q M v E y x A F B w e w')
 (U:AY p o q v S V y x A F B) (Q:E.length<=1099511627776) (R:p+o*8+q*8+v<=y.mem.size) (L:0<=x/\x<=4194304) :
 ∃ (K:Bk) (c:Nat),e=.returned (.tuple #[cD K.mb,I_ 0])/\N1 w w'.heap.size K c (VM.fresh p o q M v E y x A F B) w'/\K_ w w':=by
 obtain⟨i,d,j,s,b,m,f,l,z,t,r,rfl,G,u,H,I,J,C,h7,⟨l1,l2,l3,l4⟩,h8,h9,aa,ab,ac,n1,n2,n3,n4,k,c,T,⟨N,O⟩,⟨a3,Z⟩,⟨a5,a6⟩,⟨a7,a8⟩,⟨a9,W⟩,X,Y⟩:=h;have am:j≠m:=by
  obtain⟨n,g,_,D,_⟩:=C;intro e;subst e;exact cX.jt D _ _ _ u.mem.rest
 have al:=cA J;have ah:=cA G;have ak:=cA u.head;have ae:=u.mem.lt;have af:=cA H.head;have aj:=cA I.head;have ai:j<w'.heap.size:=by obtain⟨n,g,_,D,_⟩:=C;exact D.lt
 have ag:=u.mem.le;obtain⟨d8,P,t0,r0,ad,hm,ao,an,rt,pr⟩:=U;refine⟨⟨i,s,b,m,f,l,z,d,j,fun g=>t<=g/\g<r⟩,c,rfl,⟨⟨⟨G,rfl,rfl,rfl,u,H,I,C,?_,?_⟩,J,?_,?_⟩,T,?_,?_,?_⟩,k⟩
 . intro g a
   have a:t<=g/\g<r:=a;show g≠i/\g≠s/\g≠m/\g≠f/\g≠l;omega
 . show(i≠s/\i≠b/\i≠m/\i≠f/\i≠l)/\(f≠s/\f≠b/\f≠m/\f≠l)/\(l≠s/\l≠b/\l≠m)/\(j≠i/\j≠s/\j≠m/\j≠f/\j≠l)
   omega
 . exact { d8:=P,dm:=(by show p+o*8<=_;show _<=(y.mem.size:Int);omega),r8:=(by show(p+o*8) % 8=0;omega),rm:=(by show p+o*8+q*8<=(y.mem.size:Int);omega),out:=by simp[VM.fresh],mT:=Q,LY:=by simp[VM.fresh],Fy:=by simp[VM.fresh],h0:=by simp[VM.fresh],h1:=by simp[VM.fresh],Rm:=(by show 0<=p+o*8+q*8;omega),lt:=(by show p+o*8+q*8<=p+o*8+q*8+v;omega),uE:=R,Be:=L.1,Bf:=L.2 }
 . intro g a
   have a:t<=g/\g<r:=a;omega
 . intro g a
   have a:(g=i\/g=s\/g=m\/g=f\/g=l)\/g=b\/g=z\/g=j\/(t<=g/\g<r):=a;omega
 . refine⟨N,(show d<w'.heap.size by omega),fun a=>?_⟩
   have a:(d=i\/d=s\/d=m\/d=f\/d=l)\/d=b\/d=z\/d=j\/(t<=d/\d<r):=a;omega
 . refine⟨O,(show c<w'.heap.size by omega),fun a=>?_⟩
   have a:(c=i\/c=s\/c=m\/c=f\/c=l)\/c=b\/c=z\/c=j\/(t<=c/\c<r):=a;omega
structure N2(H H2 q la n1 ob n2:Nat)(v:VM)(w:World):Prop where
 src:jB w q [] 0
 eE:fp w 2 1 (some ⟨la,0,none⟩) 1 1 [I_ v.cF]
 pf:cX sk w n1 (v.x.mem.fR v.cF).length (fun s=>(UB (v.x.mem.fR v.cF) s).map (Value.int .i64))
 ge:H<=q/\H<=la/\H<=n1/\H<=ob/\H<=n2
 lt:q<H2/\la<H2/\n1<H2/\ob<H2/\n2<H2
 ne:q≠ob/\q≠n2/\la≠ob/\la≠n2/\n1≠ob/\n1≠n2/\ob≠n2
theorem N2.ct{w w':World}{H f q n o l j:Nat}{v:VM}(h:N2 H f q n o l j v w){S:Nat->Prop}(k:cq S w w')(u:∀ g,S g->g=l\/g=j\/f<=g):N2 H f q n o l j v w':=by
 obtain⟨p,r,s,t,i,d⟩:=h;have m:∀ g,g≠l->g≠j->g<f->¬ S g:=fun g a b c e=>by have:=u g e;omega
 exact⟨p.ct k (m _ d.1 d.2.1 i.1),r.ct k (fun g e=>by cases e;exact m _ d.2.2.1 d.2.2.2.1 i.2.1),s.ct k (m _ d.2.2.2.2.1 d.2.2.2.2.2.1 i.2.2.1),t,i,d⟩
theorem Ul{w w':World}{k:Nat}{v:VM}{e:Ending}(o:vB w k v.cF (v.x.mem.fR v.cF) e w') :
 ∃ j q h l i,e=.returned (cD j)/\N2 w.heap.size w'.heap.size q h l j i v w'/\tp w' j (Uv k q h l i)/\cX sk w' i 0 (fun _=>none)/\K_ w w':=by
 obtain⟨g,q,h,z,A,m,a,c,d,b,n,r,s,t,u,p,y,f⟩:=o;rw[MZ]at d;refine⟨g,q,h,z,A,m,⟨f,c,d,⟨y,s,t,r,u⟩,⟨cA f.head,SE c,d.lt,cA a,b.lt⟩,?_⟩,a,b,p⟩;refine⟨eQ f.head a rfl,bX b f.head,?_,?_,?_,n,bX b a⟩
 . exact fun e=>jx c a rfl (by rw[e];rfl)
 . exact fun e=>og b c (by rw[e];rfl)
 . exact fun e=>bX d a e.symm
def wm(v:VM)(w:World)(e:Ending)(w':World):Prop :=
 ∃ (G:Gk) (F:Fk) (Z:Nat->Prop),e=.returned (.tuple #[cD F.fb,I_ 0])/\GF G F/\RJ (RO G F) G w' Z (SC v,Oo.start)/\(∀ g,Z g->w.heap.size<=g)/\K_ w w'
theorem NK{w w':World}{H i:Nat}{K:Bk}{I q J t y r R j u z A:Nat}{B:List UInt8->Option Value}{v:VM}(W:xM w)(d:K_ w w')(a:N1 w H K I v w')(hH:w.heap.size<=H)(ae:H<=i)(b:N2 H i q J t y r v w')(o:tp w' y { Uv K.mb q J t r with reset:=ja j })(mm:cX sk w' r R B)
 (S:cX iN w' z 0 (fun _=>none)) (T:cX ik w' A 0 (fun _=>none)) (f:w'.heap[j]?=some (.cells (vq y z A) 107 (0,0))) (g:w'.heap[u]?=some (.cells #[cD j] 96 (0,0)))
 (hp:i<=z/\i<=A/\i<=j/\i<=u) (ne:z≠A) (V:iy w' i u (fun _=>false) B):wm v w (.returned (.tuple #[cD j,I_ 0])) w':=by
 obtain⟨l,N⟩:∃ l:List UInt8->Nat,∀ s k,gr s=some k->B s=some (.func (.func 172) #[] #[cD (l s),cD u])/\i<=l s/\w'.heap[l s]?=some (.cells #[bY k] 267 (0,0)):=by
  have c:∀ s,∃ g,∀ k,gr s=some k->B s=some (.func (.func 172) #[] #[cD g,cD u])/\i<=g/\w'.heap[g]?=some (.cells #[bY k] 267 (0,0)):=by
   intro s;have m:=V s;cases d:gr s with
   | none=>exact⟨0,fun k h=>by cases h⟩
   | some k =>
    rw[d]at m;simp only[Bool.false_eq_true,if_false]at m;obtain⟨g,L,O,U⟩:=m;exact⟨g,fun k' ac=>by cases ac;exact⟨L,O,U⟩⟩
  obtain⟨l,h⟩:=Classical.axiomOfChoice c;exact⟨l,fun s k d=>h s k d⟩
 obtain⟨X,Y,Z,b4,b5,b6⟩:=b;have aj:=cA f;have ai:=cA g;have ag:=S.lt;have ah:=T.lt;have h4:=W.lt;have af:=d.size;have ab:∀ s k,gr s=some k->l s<w'.heap.size:=fun s k h=>cA (N s k h).2.2;have C:∀ x,((⟨q,some ⟨J,0,none⟩,1,none,0⟩:Dk).own ⟨K,y,t,(v.x.mem.fR v.cF).length,r,R,B,ja j⟩ x\/K.all x)->(w.heap.size<=x/\x<i)/\(K.all x\/H<=x):=by
  rintro x ((c | c | c | c | c | c) | c)
  . have c:x=y:=c;omega
  . have c:x=q:=c;omega
  . have c:J=x:=Option.some.inj c;omega
  . cases c
  . have c:x=t:=c;omega
  . have c:x=r:=c;omega
  . have:=a.all x c;exact⟨by omega,.inl c⟩
 let G:Gk:=⟨K,y,t,(v.x.mem.fR v.cF).length,r,R,B,ja j⟩
 let F:Fk:=⟨j,u,z,A,I,l⟩
 let D:Dk:=⟨q,some ⟨J,0,none⟩,1,none,0⟩
 let E:Fd:=⟨none,0,none,0⟩
 have M:∀ x,E.own G F x->(x=K.nb\/x=I\/i<=x)/\x<w'.heap.size:=by
  rintro x (c | c | c | c | c | c | c | c | ⟨s,m,c⟩)
  . have c:x=j:=c;omega
  . have c:x=u:=c;omega
  . have c:x=z:=c;omega
  . have c:x=A:=c;omega
  . have c:x=K.nb:=c;have:=cA a.nm.1;omega
  . have c:x=I:=c;have:=cA a.nm.2;omega
  . cases c
  . cases c
  . have c:x=l s:=c
    cases d:gr s with
    | none=>rw[d]at m;cases m
    | some k=>have:=ab s k d;have:=(N s k d).2.1;omega
 have aa:∀ x,(D.own G x\/K.all x)->¬ E.own G F x:=by
  intro x c hy;have L:=C x c;have O:=M x hy;have t:=a.nb;have r:=a.Qt;rcases O.1 with e | e | e
  . subst e;rcases L.2 with h | h
    . exact t.2.2 h
    . omega
  . subst e;rcases L.2 with h | h
    . exact r.2.2 h
    . omega
  . omega
 refine⟨G,F,fun x=>(D.own G x\/K.all x)\/E.own G F x,rfl,⟨fun Q k d=>(N Q k d).1,fun Q hl=>?_,rfl⟩,⟨⟨fun x=>D.own G x\/K.all x,fun x=>E.own G F x,⟨D,⟨a.fv,o,X,Y,fp.nil _ _ _,Z,mm,?_,?_⟩,fun _=>id,fun x c=>?_⟩,⟨E,⟨f,S.mono (by decide),T.mono (by decide),fp.nil _ _ _,⟨a.nm.1,fp.nil _ _ _,?_,by show(0:Nat)<=1024;decide,List.nodup_nil⟩,g,fun s k d=>(N s k d).2.2,⟨ne,?_,?_⟩,?_⟩,fun _=>id,fun x c=>(M x c).2⟩,aa,fun _=>id⟩,?_,W.cL d,?_⟩,?_,d⟩
 . have m:=V Q
   rw[hl]at m;exact m
 . intro x c ad
   have L:=C x (.inl c);have U:=a.all x ad;rcases c with c | c | c | c | c | c
   . have c:x=y:=c;omega
   . have c:x=q:=c;omega
   . have c:J=x:=Option.some.inj c;omega
   . cases c
   . have c:x=t:=c;omega
   . have c:x=r:=c;omega
 . exact⟨by show(0:Nat)<=1000000;decide,by show(1:Nat)<=1000000;decide,by show(0:Nat)<=100;decide,by show 0<=Wd.none.cM;decide,by show Wd.none.cM<=4194304;decide,by show 0<=Wd.none.cM;decide,by show Wd.none.cM<=4194304;decide⟩
 . have:=C x c
   have:=hp;omega
 . have:=cX.empty (P:=prog) nL a.nm.2
   have e:(fun _=>none:OI->Option Value)=wL []:=by
    funext p;unfold wL;rw[if_neg (fun e=>List.not_mem_nil e.2.2)]
   rw[e]at this;exact this
 . have:=a.Qt;show z≠I;omega
 . have:=a.Qt;show A≠I;omega
 . exact⟨by show(0:Int)<=0/\(0:Int)<=4194304;decide,by show 0<=Wd.none.cM/\Wd.none.cM<=4194304;decide,by show(-9223372036854775808:Int)<=0/\(0:Int)<=9223372036854775807;decide,by show(0:Nat)<=1000000000;decide,fun p h=>absurd rfl h,fun n h=>absurd rfl h⟩
 . rintro x (c | c)
   . have:=C x c;omega
   . exact(M x c).2
 . rintro x h0 (c | c)
   . have:=C x c;omega
   . have:=M x c;have:=a.nb;have:=a.Qt;omega
 . rintro x (c | c)
   . have:=C x c;omega
   . have:=M x c;have:=a.nb;have:=a.Qt;omega
theorem NL(w:World)(dV data ret hz cy:Int)(mT:List UInt8)(m1:Mem)(x1 y:Sp)(root dD cF cV:Int)(ok:AY dV data ret hz m1 x1 y root dD cF cV)(hi:mT.length<=1099511627776)(hs:dV+data*8+ret*8+hz<=y.mem.size)(hr0:0<=root/\root<=4194304)(hg:xM w)(v:VM)(hv:v=VM.fresh dV data ret cy hz mT y root dD cF cV) :
 Calls prog 96 #[.agg #[I_ dV,I_ data,I_ ret,I_ hz,I_ cy],S_ mT] w (wm v w):=by
 have hmm:=@run_makeMap prog;have HV:=h_ fun V=>RZ V dV data ret hz cy mT m1 x1 y root dD cF cV ok;have tN:=h_ fun (V w':World) (e:Ending) (h:zb dV data ret cy hz mT y root dD cF cV V e w')=>h.nx ok hi hs hr0;rw[<- hv]at tN;clear ok hi hs hr0 hv;go_enter func96,ntmps96;go_wp2_with fail;refine(HV.out _).mono ?_;rintro e w1 hv;obtain⟨KB,im,rfl,N1,K1⟩:=tN.out _ _ _ hv;have N1:=N1.Uk (w:=w) (by rw[World.size_alloc];omega);have N1:=h_ N1;have K:=h_ ((dR w _).trans K1);clear hv K1 HV tN;go_wp2_with fail;refine(DU w1 KB.mb KB.s KB.b KB.bb _ v.x N1.out.fv.vm.mc rfl N1.out.fv.vm.sp).mono ?_;rintro e w2 hop;obtain⟨ob,q,la,n1,n2,rfl,N2,O1,Wu,k2⟩:=Ul hop;have HG:=h_ hg;have HZ0:=h_ K.out.size
 have HB:=h_ (show w.heap.size<=w1.heap.size/\w1.heap.size<=w2.heap.size from by
  have h0:=K.out.size;have h1:=k2.size
  omega)
 clear hop hg;go_upto_region 6 with fail;obtain⟨W,hW,a0,a1,a2,a3,a4,hWs,kW⟩:=Xc w2 (.map #[] 0) (.map #[] 0) (.cells #[cD ob,.map (some w2.heap.size),.map (some (w2.heap.size+1)),I_ 0,I_ 0,I_ 0,I_ 0,.string ⟨#[]⟩,I_ 0,.slice none 0 0,I_ 0,I_ 0,I_ 0] 107) (.cells #[cD (w2.heap.size+1+1)] 96 (0,0)) (.map #[] 0);rw[<- hW];clear hW;have kk:=k2.trans kW;have Wv:=h_ (N1.out.ct kk (fun _ _=>id));have UG:=h_ (N2.ct kW (fun _ e=>e.elim));have O2:=h_ (O1.ct kW id);have Ww:=h_ (Wu.ct kW id);have K2:=h_ (K.out.trans kk);clear kk kW k2 O1 Wu N2 N1 K;obtain⟨bW,hbW⟩:∃ bW,bW=w2.heap.size+1+1+1+1:=⟨_,rfl⟩;rw[<- hbW]at a4 |-;obtain⟨gf,hgf⟩:∃ gf,gf=w2.heap.size+1+1+1:=⟨_,rfl⟩;rw[<- hgf]at a3 |-;obtain⟨fb,Wx⟩:∃ fb,fb=w2.heap.size+1+1:=⟨_,rfl⟩;rw[<- Wx]at a2 a3 |-;obtain⟨p2,hp2⟩:∃ p2,p2=w2.heap.size+1:=⟨_,rfl⟩;rw[<- hp2]at a1 a2 |-;obtain⟨p1,hp1⟩:∃ p1,p1=w2.heap.size:=⟨_,rfl⟩;rw[<- hp1]at a0 a2 |-;change W.heap[fb]?=some (.cells (vq ob p1 p2) 107 (0,0))at a2;have A0:=h_ (cX.empty (P:=prog) iN a0);have A1:=h_ (cX.empty (P:=prog) ik a1);have A2:=h_ a2;have A3:=h_ a3;have A4:=h_ (cX.empty (P:=prog) sk a4);have HS:=h_ (show w2.heap.size=p1/\p2=p1+1/\fb=p1+2/\gf=p1+3/\bW=p1+4/\W.heap.size=p1+5 from by omega);clear a0 a1 a2 a3 a4 hbW hgf Wx hp2 hp1 hWs;have DK:=h_ (Bc.kf W)
 go_wp2_with (first
  | (refine eV _ rfl _ _ _ (.inr rfl) _ 0 _ rfl DK.out (by decide) [99,108,97,115,115] (by decide) (bY 160) rfl rfl ?_;intro w2 dk;replace DK:=h_ dk;clear dk)
  | (refine eV _ rfl _ _ _ (.inr rfl) _ 1 _ rfl DK.out (by decide) [101,110,100,99,108,97,115,115] (by decide) (bY 161) rfl rfl ?_;intro w2 dk;replace DK:=h_ dk;clear dk)
  | (refine eV _ rfl _ _ _ (.inr rfl) _ 2 _ rfl DK.out (by decide) [105,118,97,114] (by decide) (bY 162) rfl rfl ?_;intro w2 dk;replace DK:=h_ dk;clear dk)
  | (refine eV _ rfl _ _ _ (.inr rfl) _ 3 _ rfl DK.out (by decide) [109,101,116,104,111,100] (by decide) (bY 163) rfl rfl ?_;intro w2 dk;replace DK:=h_ dk;clear dk)
  | (refine eV _ rfl _ _ _ (.inr rfl) _ 4 _ rfl DK.out (by decide) [114,101,100,101,102,105,110,101] (by decide) (bY 164) rfl rfl ?_;intro w2 dk;replace DK:=h_ dk;clear dk)
  | (refine eV _ rfl _ _ _ (.inr rfl) _ 5 _ rfl DK.out (by decide) [101,110,100,109] (by decide) (bY 165) rfl rfl ?_;intro w2 dk;replace DK:=h_ dk;clear dk)
  | (refine eV _ rfl _ _ _ (.inr rfl) _ 6 _ rfl DK.out (by decide) [105,110,116,101,114,102,97,99,101] (by decide) (bY 166) rfl rfl ?_;intro w2 dk;replace DK:=h_ dk;clear dk)
  | (refine eV _ rfl _ _ _ (.inr rfl) _ 7 _ rfl DK.out (by decide) [105,109,112,108,101,109,101,110,116,115] (by decide) (bY 167) rfl rfl ?_;intro w2 dk;replace DK:=h_ dk;clear dk)
  | (refine eV _ rfl _ _ _ (.inr rfl) _ 8 _ rfl DK.out (by decide) [45,62] (by decide) (bY 168) rfl rfl ?_;intro w2 dk;replace DK:=h_ dk;clear dk)
  | (refine eV _ rfl _ _ _ (.inr rfl) _ 9 _ rfl DK.out (by decide) [58,58] (by decide) (bY 169) rfl rfl ?_;intro w2 dk;replace DK:=h_ dk;clear dk)
  | (refine eV _ rfl _ _ _ (.inr rfl) _ 10 _ rfl DK.out (by decide) [115,117,112,101,114] (by decide) (bY 170) rfl rfl ?_;intro w2 dk;replace DK:=h_ dk;clear dk)
  | (refine eV _ rfl _ _ _ (.inr rfl) _ 11 _ rfl DK.out (by decide) [111,98,106,101,99,116] (by decide) (bY 171) rfl rfl ?_;intro w2 dk;replace DK:=h_ dk;clear dk)
  | (at_range;refine kK sk _ rfl _ 268 rfl _ underlying268 W.heap.size 12 DN rfl DK.out.1 ?_;intro w5 Sa hrg0 hk0))
 go_frame
 have SY:=h_ hrg0;have K5:=h_ (DK.out.2.2.trans hk0);have Sb:=h_ hk0;have HW2:=h_ (show W.heap.size<=w2.heap.size/\w2.heap.size<w5.heap.size from⟨DK.out.2.2.size,hrg0.sV.1⟩);clear hrg0 hk0 DK;have zK:=zK;have VZ:=VZ
 go_loopw [31] (fun _ wr=>∃ (left:List UInt8->Bool) (cnt m:Nat) (fM:List UInt8->Option Value),iJ sk wr W.heap.size w2.heap.size 12 DN left cnt/\m+cnt<=12/\cX sk wr bW m fM/\iy wr w5.heap.size gf left fM/\cq (fun k=>k=bW\/k=w2.heap.size) w5 wr) (fun _ wr=>wr.rangeLeft W.heap.size w2.heap.size)
 case atStart =>
  exact⟨_,Sa,0,_,SY.out,by have:=SY.out.yO;omega,A4.out.ct K5.out id,iy.start _ _ _,cq.refl _ _⟩
 case round =>
  obtain⟨left,cnt,m,fM,hrg,hm,hd,hc,hk⟩:=hrel;have HR:=h_ hrg;have HD:=h_ hd;have HC:=h_ hc;have HK:=h_ hk;clear hrg hd hc hk
  go_wp2_with (first
   | (at_next;refine kL sk _ rfl _ rfl W.heap.size w2.heap.size 12 DN left cnt rfl HR.out ?_ ?_)
   | go_in)
  . intro hl
    have hs:=HS.out;have hw2:=HW2.out;have hb:=HB.out;have hge:=UG.out.ge;have hlt:=UG.out.lt;have hcl:=HC.out.done (fun x hx=>hl x (show x.length<=maxLen from Nat.le_trans hx (by unfold maxLen;omega)));have KW:cq (fun k=>k=bW) W wr:=(K5.out.mono (fun _ _ e=>e.elim)).dh HK.out (fun i hi e=>by rcases e with e | e;exact e;omega);have Wy:=h_ (Wv.out.ct KW (fun g h e=>by have e:g=bW:=e;omega));have UH:=h_ (UG.out.ct KW (fun g e=>by have e:g=bW:=e;omega));have O3:=h_ (O2.out.ct KW (show ¬ ob=bW by omega));have Wz:=h_ (Ww.out.ct KW (show ¬ n2=bW by omega));have B0:=h_ (A0.out.ct KW (show ¬ p1=bW by omega));have B1:=h_ (A1.out.ct KW (show ¬ p2=bW by omega));have B2:=h_ (KW.heap A2.out (show ¬ fb=bW by omega));have B3:=h_ (KW.heap A3.out (show ¬ gf=bW by omega));have K3:=h_ (K2.out.dh KW (fun i hi e=>by have:=HZ0.out;have e:i=bW:=e;omega));have XM:=h_ (HD.out.mono (show m<=12 by omega));have WA:=h_ hcl;have g0:C_ wr gf 0=some (cD fb):=cp B3.out rfl;have f0:C_ wr fb 0=some (cD ob):=cp B2.out rfl;have HE:=h_ (zd wr.drew ob bW fb 0 12 _ (fun _=>none) fM (O3.out.ct (fw wr) id) (Wz.out.ct (fw wr) id) (XM.out.ct (fw wr) id) (show n2≠bW by omega) (by omega));unfold ja at HE;rw[H9]at HE;clear hs hw2 hb hge hlt hcl KW hl HR HD HC HK Wv UG O2 Ww A0 A1 A2 A3 A4 K2 K5;go_wp2_with fail;go_still_tail 7,(by kernel_rfl);change wpList _ _ _ _ _ wr.drew;go_wp2_with fail;refine HE.out.mono ?_;rintro e w9 ⟨rfl,o9,WB,k9⟩;have hs:=HS.out;have hw2:=HW2.out;have hb:=HB.out;have hge:=UH.out.ge;have hlt:=UH.out.lt;have k9:cq (fun g=>g=ob\/g=n2) wr w9:=(cq.drew _ wr).trans k9;have XN:=h_ (Wy.out.ct k9 (fun g h e=>by have e:g=ob\/g=n2:=e;omega));have XO:=h_ (UH.out.ct k9 (fun g e=>by have e:g=ob\/g=n2:=e;omega));have O4:=h_ o9;have XP:=h_ WB;have C0:=h_ (B0.out.ct k9 (show ¬ (p1=ob\/p1=n2) by omega));have C1:=h_ (B1.out.ct k9 (show ¬ (p2=ob\/p2=n2) by omega));have C2:=h_ (k9.heap B2.out (show ¬ (fb=ob\/fb=n2) by omega));have C3:=h_ (k9.heap B3.out (show ¬ (gf=ob\/gf=n2) by omega));have XQ:=h_ (WA.out.ct k9 (fun g hg e=>by rcases e with e | e <;> omega));have K4:=h_ (K3.out.dh k9 (fun i hi e=>by rcases e with e | e <;> omega));have q0:C_ w9 gf 0=some (cD fb):=cp C3.out rfl;clear hs hw2 hb hge hlt k9 o9 WB Wy UH O3 Wz B0 B1 B2 B3 WA K3 HE g0 f0;go_wp2;go_ret2;have hs:=HS.out;have hw2:=HW2.out;exact NK HG.out K4.out XN.out HB.out.1 HB.out.2 XO.out O4.out XP.out C0.out C1.out C2.out C3.out (by omega) (by omega) (XQ.out.low _ (by omega))
  . intro x v w6 cnt1 hok hlx hfx hrg1 hlt hg1 hen
    have hr:=HR.out.sV;obtain⟨kx,hkx,rfl⟩:∃ kx,gr x=some kx/\v=bY kx:=by
     rw[Fx]at hfx;cases hk:gr x with
     | none=>rw[hk]at hfx;cases hfx
     | some n=>rw[hk]at hfx;exact⟨n,rfl,(Option.some.inj hfx).symm⟩
    have HR1:=h_ hrg1;have hs:=HS.out;have hw2:=HW2.out;have hz:=HK.out.size;have HD1:=h_ (HD.out.ct hg1 (fun e=>by have e:bW=w2.heap.size:=e;omega));have XR:=h_ (HC.out.ct hg1 (fun g hg e=>by have e:g=w2.heap.size:=e;omega));have TB:=h_ (HK.out.trans (hg1.mono (T:=fun k=>k=bW\/k=w2.heap.size) (fun _ _ e=>.inr e)));have XS:=h_ hkx;have XT:=h_ hok;change (Instr.entry (cD w2.heap.size)).run prog w6=.ok (.tuple #[S_ x,.func (.func kx) #[] #[]]) w6 at hen;rw[show sk.val x=Value.string ⟨x.toArray⟩ from rfl];unfold bY;clear hrg1 hg1 hfx hok hlx hkx hs hw2;go_upto_region 9 with fail;have ka:=dR w6 (.cells #[.func (.func kx) #[] #[]] 267);have hc:=cx w6 (.cells #[.func (.func kx) #[] #[]] 267);have hs6:=TB.out.size;obtain⟨gx,hgx⟩:∃ gx,gx=w6.heap.size:=⟨_,rfl⟩;rw[<- hgx]at hc |-;have XU:=h_ (show w5.heap.size<=gx from by omega);generalize w6.alloc (.cells #[.func (.func kx) #[] #[]] 267)=V at ka hc |-;have HR2:=h_ (HR1.out.ct ka id id);have HD2:=h_ (HD1.out.ct ka id);have XV:=h_ (XR.out.ct ka (fun _ _=>id));have XW:=h_ (TB.out.trans (ka.mono (fun _ _ e=>e.elim)));have XX:=h_ hc;clear ka hc hgx hs6
    go_wp2_with (first
     | (at_mapUpdate;refine jM sk _ rfl _ _ _ 57 (.inl rfl) _ underlying57 bW m _ rfl HD2.out (by unfold maxLen;omega) x XT.out (.func (.func 172) #[] #[cD gx,cD gf]) rfl rfl ?_;intro w8 WC Um;go_frame)
     | go_in)
    have hs:=HS.out;have hw2:=HW2.out;have hgx:=XU.out;have TD:=h_ (HR2.out.ct Um (fun e=>by have e:W.heap.size=bW:=e;omega) (fun e=>by have e:w2.heap.size=bW:=e;omega));have XY:=h_ ((XV.out.ct Um (fun g hg e=>by have e:g=bW:=e;omega)).step x kx XS.out gx hgx (Um.heap XX.out (fun e=>by have e:gx=bW:=e;omega)));have U9:=h_ (XW.out.trans (Um.mono (T:=fun k=>k=bW\/k=w2.heap.size) (fun _ _ e=>.inl e)));have XZ:=h_ WC;clear WC Um hs hw2 hgx;go_roundw;case rel=>exact⟨_,cnt1,m+1,_,TD.out,by omega,XZ.out,XY.out,U9.out⟩
    case measure=>rw[TD.out.left_eq,HR.out.left_eq];exact hlt
section
variable (G:Gk) (F:Fk) (w:World) (Z:Nat->Prop) (q:Rd × Oo)
theorem zI(b:Int)(s:List UInt8)(n a k:Int)(i:0<=a)(j:a<=255)(t:(q.1.make b s n a [k]).2.2=0)(h:RJ (RO G F) G w Z q) :
 Calls prog 31 #[cD G.ob,I_ b,S_ s,I_ n,I_ a,.slice (some ⟨w.heap.size,0,none⟩) 1 1] (w.alloc (.cells #[I_ k] 2)) (I0 Wd.val G F Z w (((q.1.make b s n a [k]).1,q.2),(q.1.make b s n a [k]).2)):=by
 have d:=dR w (.cells #[I_ k] 2);obtain⟨X,Y,c,l,m,o⟩:=h.parts;refine(BR G X _ q.1 b s n a _ 1 [k] i j (vw w k _) (by simp) (fun g r=>?_) t (c.cL d)).mono ?_
 . cases r
   exact⟨c.zw,by show w.heap.size<_;rw[World.size_alloc];omega⟩
 . rintro e w' ⟨p,v,u,f⟩
   exact⟨p,RJ.Nj h c l m o u ((ef.kt d).trans f)⟩
theorem Ey(d:(Oo.lN q).2=0)(h:RJ (RO G F) G w Z q):Calls prog 171 #[cD F.fb] w (PJ (RO G F) G Z w (Oo.lN q)):=by
 have H:=h_ (vY G F w Z q h)
 have b:Oo.lN q=if Oo.apart q=false then(q,-22)else if(Oo.cJ q.1).2.2≠0 then(((Oo.cJ q.1).1,q.2),(Oo.cJ q.1).2.2)else
  if(Oo.cJ q.1).1.name.2.2≠0 then(((Oo.cJ q.1).1.next,q.2),(Oo.cJ q.1).1.name.2.2)else
  if(Obj.dV (Oo.cJ q.1).1.next.v.x (Oo.cJ q.1).2.1).2.2≠0 then(({ (Oo.cJ q.1).1.next with v:={ (Oo.cJ q.1).1.next.v with x:=(Obj.dV (Oo.cJ q.1).1.next.v.x (Oo.cJ q.1).2.1).1 } },q.2),(Obj.dV (Oo.cJ q.1).1.next.v.x (Oo.cJ q.1).2.1).2.2)else
  ((({ (Oo.cJ q.1).1.next with v:={ (Oo.cJ q.1).1.next.v with x:=(Obj.dV (Oo.cJ q.1).1.next.v.x (Oo.cJ q.1).2.1).1 } }:Rd).make (Oo.cJ q.1).1.next.v.cF (Oo.cJ q.1).1.dt 1003 0 [(Obj.dV (Oo.cJ q.1).1.next.v.x (Oo.cJ q.1).2.1).2.1]).1,q.2,
    (({ (Oo.cJ q.1).1.next with v:={ (Oo.cJ q.1).1.next.v with x:=(Obj.dV (Oo.cJ q.1).1.next.v.x (Oo.cJ q.1).2.1).1 } }:Rd).make (Oo.cJ q.1).1.next.v.cF (Oo.cJ q.1).1.dt 1003 0 [(Obj.dV (Oo.cJ q.1).1.next.v.x (Oo.cJ q.1).2.1).2.1]).2.2) |> fun t=>((t.1,t.2.1),t.2.2):=rfl
 have N:=pK q.1;have M:Oo.apart q=true:=by
  cases e:Oo.apart q with
  | true=>rfl
  | false=>rw[b,if_pos e]at d;exact absurd (show(-22:Int)=0 from d) (by decide)
 rw[if_neg (by rw[M];decide)]at b;have s:(Oo.cJ q.1).2.2=0:=Decidable.byContradiction fun e=>e (by rw[b,if_pos e]at d;exact d);have l:=h_ (mv G F w Z q s h);rw[if_neg (by rw[s];simp)]at b;rw[M]at H;generalize Oo.lN q=ab at b d |-;generalize Oo.cJ q.1=c at l b N s;obtain⟨g,a,e1⟩:=c;dsimp only at l b N s;subst s;obtain⟨r0,x⟩:=q;dsimp only at l b;have J0:=h_ h;have R:=h_ (ef.refl w Z);clear h;clear M;have n:=h_ b;have I:=h_ d;clear b d;go_enter func171,ntmps171;go_wp2_with fail;refine H.out.mono ?_;rintro e w' ⟨rfl,rfl⟩;clear H;go_wp2_with fail;refine ir (l.out) R ?_;intro w1 Z1 J S
 skip
 clear l J0 R;have b:=n.out;cases C:Rd.gH g.dt with
 | true =>
  have u:=ld g C;rw[u,if_pos (by simp)]at b;have W:=I.out;rw[b]at W;exact absurd (show(-16:Int)=0 from W) (by decide)
 | false =>
  have u:=jV g C;have hl:=mu C;rw[u,if_neg (by simp)]at b;have k:=h_ (Gd G F _ _ _ J.out);dsimp only at k;rw[u]at k;have j:=h_ fun V r (L:RJ (RO G F) G V r (g.next,x))=>NC G F V r (g.next,x) a N L;dsimp only at j k;clear n C u;generalize Obj.dV g.next.v.x a=t at j b;obtain⟨y,E,e3⟩:=t;dsimp only at j b;obtain⟨i,P⟩:∃ i,i=({ g.next with v:={ g.next.v with x:=y } }:Rd):=⟨_,rfl⟩;rw[<- P]at b j;obtain⟨f,O⟩:∃ f,f=g.next.v.cF:=⟨_,rfl⟩;rw[<- O]at b;have X:i.v.cF=f:=by rw[P,O]
  clear P O;generalize g.dt=nm at k b hl;have n:=h_ b;clear b;have B:=J.out.f0;go_wp2_with fail;refine ir (k.out) S ?_;intro w2 Z2 o T;try clear B
  dsimp only[wR];have B:=o.out.f0;have o0:=o.out.o0;have v0:=o.out.v0;go_wp2_with fail;refine ir (j.out _ _ o.out) T ?_;intro w3 Z3 p U;try clear o0;try clear B;try clear v0
  clear k j J S o T;have b:=n.out;have d:=I.out;have h3:e3=0:=Decidable.byContradiction fun e=>e (by rw[b,if_pos e]at d;exact d);subst h3;rw[if_neg (by simp)]at b;rw[b]at d;clear n I;have Y:(i.make f nm 1003 0 [E]).2.2=0:=d;have A:=h_ fun V r (L:RJ (RO G F) G V r (i,x))=>zI G F V r (i,x) f nm 1003 0 E (by decide) (by decide) Y L;dsimp only at A;have D:=ym i f nm 1003 0 [E];clear d Y;generalize aa:i.make f nm 1003 0 [E]=m at A D b;clear aa;obtain⟨r4,d4,e4⟩:=m;have D:r4.v.cF=f:=D.trans X;dsimp only at A b;subst b;have B:=p.out.f0;have o0:=p.out.o0;have v8:=p.out.v8;dsimp only at v8;rw[X]at v8;go_wp2_with fail
  go_region_held3 (fun V=>C_ V F.fb 0=some (cD G.ob)/\C_ V G.ob 0=some (cD G.K.mb)/\C_ V G.K.mb 8=some (I_ f))
   (first | (go_keep;done) | exact tt)
   (first
     | (go_at_call 31;refine(A.out w3.drew _ (p.out.eL (cq.drew _ _))).mono ?_;rintro e Q ⟨rfl,Z4,z,k4⟩;dsimp only[Wd.val];have tt:=(show C_ Q F.fb 0=some (cD G.ob)/\C_ Q G.ob 0=some (cD G.K.mb)/\C_ Q G.K.mb 8=some (I_ f) from⟨z.f0,z.o0,D ▸ z.v8⟩)))
  have J4:=h_ z;have E4:=h_ (U.out.trans ((ef.kt (fw w3)).trans k4));clear z k4 p U;go_wp2_with fail;go_ret;exact⟨rfl,_,J4.out,E4.out⟩
theorem Ez(x:(Oo.cE q.1).2.2=0)(h:RJ (RO G F) G w Z q):Calls prog 260 #[cD F.fb] w (I0 (Value.int .i64) G F Z w (((Oo.cE q.1).1,q.2),(Oo.cE q.1).2)):=by
 have z:(Oo.rest q.1).length<=1000000:=by
  obtain⟨X,i⟩:=h.Cn;exact Nat.le_trans (Np q.1) i.ok.src
 obtain⟨S,f,A⟩:=Ub G F w Z q h;have u:=h_ A;have o:=h_ fun V c (m:RJ (RO G F) G V c q)=>Ua G F V c q m;have l:=h_ fun V c (m:RJ (RO G F) G V c (q.1.next,q.2))=>SJ G F V c (q.1.next,q.2) (Oo.rest q.1) z m;have b:Oo.cE q.1=if q.1.dt=[45] then(q.1.next,0,0)else Oo.cJ (q.1.next.again (Oo.rest q.1)):=rfl;have k:=h_ fun V c (e:q.1.dt≠[45]) (m:RJ (RO G F) G V c (q.1.next.again (Oo.rest q.1),q.2))=>mv G F V c (q.1.next.again (Oo.rest q.1),q.2) (by rw[b,if_neg e]at x;exact x) m;dsimp only at k;clear x;generalize Oo.cJ (q.1.next.again (Oo.rest q.1))=N at k b;generalize Oo.cE q.1=Q at b |-;generalize q.1.next.again (Oo.rest q.1)=T at l k;generalize Oo.rest q.1=W at u l;generalize q.1.dt=B at o b k;generalize q.1.next=U at o l b;have p:=h_ h;have y:=h_ (ef.refl w Z);have a:=p.out.f0;have d:=p.out.o0;clear h A z;by_cases i:B=[45]
 . subst i
   rw[if_pos rfl]at b;subst b;clear k l;go_enter func260,ntmps260;go_wp2_with fail;refine(u.out).mono ?_;rintro e L ⟨rfl,j⟩;have g:=h_ (p.out.eL j);have s:=h_ (y.out.trans (ef.kt j));clear j;try clear d;try clear f;try clear a
   obtain⟨K,f,n⟩:=o.out _ _ g.out;have v:=h_ n;clear n;have a:=g.out.f0;have d:=g.out.o0;go_wp2_with fail;refine ir (v.out) s ?_;intro M J r t;try clear d;try clear f;try clear a
   go_wp2_with fail;go_ret2;exact⟨rfl,_,r.out,t.out⟩
 . rw[if_neg i]at b
   subst b;have R:(B == [45])=false:=by simp[i]
   have E:=h_ i;clear i;go_enter func260,ntmps260;go_wp2_with fail;refine(u.out).mono ?_;rintro e L ⟨rfl,j⟩;have g:=h_ (p.out.eL j);have s:=h_ (y.out.trans (ef.kt j));clear j;try clear d;try clear f;try clear a
   obtain⟨K,f,n⟩:=o.out _ _ g.out;have v:=h_ n;clear n;have a:=g.out.f0;have d:=g.out.o0;go_wp2_with fail;refine ir (v.out) s ?_;intro M J r t;try clear d;try clear f;try clear a
   have a:=r.out.f0;go_wp2_with fail;refine ir (l.out _ _ r.out) t ?_;intro Y O H C;try clear d;try clear f;try clear a
   go_wp2_with fail;refine ir (k.out _ _ E.out H.out) C ?_;intro w4 P I D;try clear d;try clear f;try clear a
   go_wp2_with fail;go_ret2;exact⟨rfl,_,I.out,D.out⟩
end
section
variable (G:Gk) (F:Fk) (w:World) (Z:Nat->Prop) (q:Rd × Oo)
theorem zJ(f:(Oo.lO q).2=0)(h:RJ (RO G F) G w Z q):Calls prog 164 #[cD F.fb] w (PJ (RO G F) G Z w (Oo.lO q)):=by
 have m:=h_ (vY G F w Z q h);have b:Oo.lO q=if Oo.apart q=false then(q,-22)else if(Oo.cJ q.1).2.2≠0 then(((Oo.cJ q.1).1,q.2),(Oo.cJ q.1).2.2)else Oo.begin ((Oo.cJ q.1).1,q.2) (Oo.cJ q.1).2.1:=rfl;have j:=pK q.1;have i:Oo.apart q=true:=by
  cases e:Oo.apart q with
  | true=>rfl
  | false=>rw[b,if_pos e]at f;exact absurd (show(-22:Int)=0 from f) (by decide)
 rw[if_neg (by rw[i];decide)]at b;have d:(Oo.cJ q.1).2.2=0:=Decidable.byContradiction fun e=>e (by rw[b,if_pos e]at f;exact f);have g:=h_ (mv G F w Z q d h);rw[if_neg (by rw[d];simp)]at b;rw[i]at m;clear f;generalize Oo.lO q=Q at b |-;generalize Oo.cJ q.1=c at g b j d;obtain⟨k,a,z⟩:=c;dsimp only at g b j d;subst d;have v:=h_ h;have o:=h_ (ef.refl w Z);clear h;clear i;have l:=h_ fun V n (u:RJ (RO G F) G V n (k,q.2))=>Cc G F V n (k,q.2) a j u;generalize Oo.begin (k,q.2) a=B at l b;subst b;go_enter func164,ntmps164;go_wp2_with fail;refine m.out.mono ?_;rintro e w' ⟨rfl,rfl⟩;go_wp2_with fail;refine ir (g.out) o ?_;intro A x s p
 skip
 go_wp2_with fail;refine ir (l.out _ _ s.out) p ?_;intro C y t r
 skip
 go_wp2_with fail;go_ret;exact⟨rfl,_,t.out,r.out⟩
theorem Ja(ae:(Oo.pX q).2=0)(am:RJ (RO G F) G w Z q):Calls prog 160 #[cD F.fb] w (PJ (RO G F) G Z w (Oo.pX q)):=by
 have HI:=h_ (vY G F w Z q am)
 have a:Oo.pX q=if Oo.apart q=false then(q,-22)else if q.1.name.2.2≠0 then((q.1.next,q.2),q.1.name.2.2)else
  if(Oo.cE q.1.next).2.2≠0 then(((Oo.cE q.1.next).1,q.2),(Oo.cE q.1.next).2.2)else Oo.rI ((Oo.cE q.1.next).1,q.2) q.1.dt (Oo.cE q.1.next).2.1:=rfl
 generalize Oo.pX q=aK at a ae |-;obtain⟨I,x⟩:=q;dsimp only at a;have J0:=h_ am;have E0:=h_ (ef.refl w Z);clear am;have f:=h_ a;have Q:=h_ ae;clear a ae;go_enter func160,ntmps160;cases E:Oo.apart (I,x)with
 | false =>
  rw[E]at HI;have a:=f.out;rw[E,if_pos rfl]at a;have r:=Q.out;rw[a]at r;exact absurd (show(-22:Int)=0 from r) (by decide)
 | true =>
  rw[E]at HI;have a:=f.out;rw[E,if_neg (by decide)]at a;clear f E;cases E:Rd.gH I.dt with
  | true =>
   have hn:=ld I E;rw[hn,if_pos (by simp)]at a;have r:=Q.out;rw[a]at r;exact absurd (show(-16:Int)=0 from r) (by decide)
  | false =>
   have hn:=jV I E;have hl:=mu E;rw[hn,if_neg (by simp)]at a;have A:=h_ (Gd G F _ _ _ J0.out);dsimp only at A;rw[hn]at A;clear E hn;have aN:(Oo.cE I.next).2.2=0:=Decidable.byContradiction fun e=>e (by have r:=Q.out;rw[a,if_pos e]at r;exact r);have HP:=h_ fun V B (hV:RJ (RO G F) G V B (I.next,x))=>Ez G F V B (I.next,x) aN hV;have au:=NH I.next;dsimp only at HP A;generalize I.dt=nm at A a hl;generalize Oo.cE I.next=p at HP a au;obtain⟨h,O,e1⟩:=p;dsimp only at HP a au;have f:=h_ a;clear a;have n:=J0.out.f0;go_wp2_with fail;refine HI.out.mono ?_;rintro e w' ⟨rfl,rfl⟩;clear HI;go_wp2_with fail;refine ir (A.out) E0 ?_;intro w1 Z1 J1 E1;try clear n
   dsimp only[wR];clear A J0 E0;go_wp2_with fail;refine ir (HP.out _ _ J1.out) E1 ?_;intro w2 Z2 J2 E2;try clear n
   clear HP J1 E1;by_cases h1:e1=0
   . subst h1
     have a:=f.out;rw[if_neg (by simp)]at a
     have Y:Oo.rI (h,x) nm O=if(Class.new h.cY.v.x h.cY.v.root O h.cY.v.cy).2.2≠0 then
      (({ h.cY with v:={ h.cY.v with x:=(Class.new h.cY.v.x h.cY.v.root O h.cY.v.cy).1 } },{ x with root:=(h.cY.v.x.mem.cell h.cY.v.root).1 }),(Class.new h.cY.v.x h.cY.v.root O h.cY.v.cy).2.2)
      else Oo.mj ({ h.cY with v:={ h.cY.v with x:=(Class.new h.cY.v.x h.cY.v.root O h.cY.v.cy).1 } },{ x with root:=(h.cY.v.x.mem.cell h.cY.v.root).1,eN:=(Class.new h.cY.v.x h.cY.v.root O h.cY.v.cy).2.1 }) nm:=rfl
     rw[Y]at a;clear f Y;have HK:=h_ (Nx G F _ _ _ J2.out);dsimp only at HK;generalize h.cY=i at HK a;have HC:=h_ fun V B (hV:RJ (RO G F) G V B (i,x))=>No G F V B (i,x) i.v.root hV;have A:=h_ fun V B y (hV:RJ (RO G F) G V B (i,y))=>I9 G F V B (i,y) O au hV;dsimp only at HC A;have f:=h_ a;clear a;have n:=J2.out.f0;go_wp2_with fail;refine ir (HK.out) E2 ?_;intro w3 Z3 o E3;try clear n
     clear HK J2 E2;have ae:=o.out.wW.vm.sp.ok;have aP:=o.out.rM;have ak:=Cj i.v.x i.v.root O i.v.cy ae (Sp.zR ae);dsimp only at aP;generalize i.v.x.mem.cell i.v.root=c at HC f;obtain⟨l,ce⟩:=c;generalize Class.new i.v.x i.v.root O i.v.cy=t at A f ak;obtain⟨y,d,e2⟩:=t;have f:=h_ (show aK=if e2≠0 then(({ i with v:={ i.v with x:=y } },{ x with root:=l }),e2)else Oo.mj ({ i with v:={ i.v with x:=y } },{ x with root:=l,eN:=d }) nm from f.out);dsimp only at HC A ak;have n:=o.out.f0;have H:=o.out.o0;have v0:=o.out.v0;have vs:=o.out.vs;have J:=o.out.v7;have f8:=o.out.f8;have q8:=o.out.ff 8;obtain⟨ah,aq,ad⟩:=o.out.bne;dsimp only at J f8;have aM:=ad.symm;have aS:=o.out.XL;have aC:=ah.symm;have aa:=o.out.Jl;dsimp only at aa;go_wp2_with fail
     go_region_held3 (fun V=>C_ V F.fb 0=some (cD G.ob)/\C_ V G.ob 0=some (cD G.K.mb)/\C_ V G.K.mb 0=some (cD G.K.s)/\C_ V G.K.s 0=some (cD G.K.b)/\C_ V G.K.mb 7=some (I_ i.v.root))
      (first | (refine⟨Qr n (by decide),?_,?_,?_,?_⟩ <;> (go_keep;done)) | (go_keep;done))
      (first
        | (go_at_call 81;refine(HC.out _ _ (o.out.eL (cq.drew _ _))).mono ?_;rintro e w' ⟨rfl,rfl⟩;dsimp only))
     obtain⟨Z4,j4,k4⟩:=o.out.Nl (w':=(w3.setCell ⟨F.fb,8,none⟩ (I_ l)).drew) (x':={ x with root:=l }) ((cq.setCell (S:=fun g=>g=F.fb) w3 ⟨F.fb,8,none⟩ (I_ l) (fun _=>rfl)).trans (cq.drew (fun g=>g=F.fb) _)) (fun ax hD=>cz hD _) ⟨rfl,rfl,rfl,rfl⟩ ⟨aa.eN,aa.dA,aa.target,aa.eH,aa.vW,aa.rQ⟩;have R:=h_ j4;have E4:=h_ (E3.out.trans k4);clear j4 k4;generalize (w3.setCell ⟨F.fb,8,none⟩ (I_ l)).drew=w4 at R E4 |-;try clear H;try clear n;try clear f8;try clear v0;try clear J;try clear vs
     clear q8 o E3 HC;go_wp2_with fail;have n:=R.out.f0;have H:=R.out.o0;have v0:=R.out.v0;have J:=R.out.v7;have v9:=R.out.v9
     go_region_held3 (fun V=>C_ V F.fb 0=some (cD G.ob)/\C_ V G.ob 0=some (cD G.K.mb)/\C_ V G.K.mb 0=some (cD G.K.s)/\C_ V G.K.mb 7=some (I_ i.v.root)/\C_ V G.K.mb 9=some (I_ i.v.cy))
      (first | go_keep | exact u)
      (first | (go_at_call 261;refine((A.out _ _ _) (R.out.eL (cq.drew _ _))).mono ?_;rintro e w5 ⟨rfl,Z5,j5,k5⟩;dsimp only;have u:=(show C_ w5 F.fb 0=some (cD G.ob)/\C_ w5 G.ob 0=some (cD G.K.mb)/\C_ w5 G.K.mb 0=some (cD G.K.s)/\C_ w5 G.K.mb 7=some (I_ i.v.root)/\C_ w5 G.K.mb 9=some (I_ i.v.cy) from⟨j5.f0,j5.o0,j5.v0,j5.v7,j5.v9⟩)))
     have J5:=h_ j5;have E5:=h_ (E4.out.trans ((ef.kt (fw w4)).trans k5));clear j5 k5;try clear H;try clear n;try clear f8;try clear v0;try clear J;try clear v9;try clear vs
     clear A R E4 u;by_cases r:e2=0
     . subst r
       have a:=f.out;rw[if_neg (by simp)]at a;obtain⟨j,av⟩:∃ j,j=({ i with v:={ i.v with x:=y } }:Rd):=⟨_,rfl⟩;have J5:=h_ (show RJ (RO G F) G w5 Z5 (j,{ x with root:=l }) from av ▸ J5.out);rw[<- av]at a;clear av;have ay:=ak rfl;have an:0<=d/\d<=4194304:=⟨ay.1,by omega⟩;have f:=h_ a;clear a ak ay;have f3:=J5.out.f3;have q3:=J5.out.ff 3;have ab:=J5.out.Jl;dsimp only at f3 ab;obtain⟨Z6,j6,k6⟩:=J5.out.Nl (x':={ x with root:=l,eN:=d }) (cq.setCell (S:=fun g=>g=F.fb) w5 ⟨F.fb,3,none⟩ (I_ d) (fun _=>rfl)) (fun ax hD=>cz hD _) ⟨rfl,rfl,rfl,rfl⟩ ⟨an,ab.dA,ab.target,ab.eH,ab.vW,ab.rQ⟩;have M:=h_ j6;have E6:=h_ (E5.out.trans k6);clear j6 k6 ab;go_upto_region 15 with fail;generalize (w5.setCell ⟨F.fb,3,none⟩ (I_ d))=w6 at M E6 |-;try clear H;try clear n;try clear f3;try clear f8;try clear v0;try clear J;try clear v9;try clear vs
       clear q3 J5 E5;have ar:=M.out.wW.vm.sp.ok;have aw:=M.out.rM;dsimp only at ar aw;obtain⟨N,aj⟩:∃ N,N=j.v.cF:=⟨_,rfl⟩;have ao:=Qs j N nm 1003 2 [d] ar aw;have ap:=(ym j N nm 1003 2 [d]).trans aj.symm;have a:=f.out;have Y:Oo.mj (j,{ x with root:=l,eN:=d }) nm=if(j.make j.v.cF nm 1003 2 [d]).2.2≠0 then(((j.make j.v.cF nm 1003 2 [d]).1,{ x with root:=l,eN:=d,dA:=(j.make j.v.cF nm 1003 2 [d]).2.1 }),(j.make j.v.cF nm 1003 2 [d]).2.2)else Oo.pF ((j.make j.v.cF nm 1003 2 [d]).1,{ x with root:=l,eN:=d,dA:=(j.make j.v.cF nm 1003 2 [d]).2.1 }):=rfl;rw[Y,<- aj]at a;have aB:(j.make N nm 1003 2 [d]).2.2=0:=Decidable.byContradiction fun e=>e (by have r:=Q.out;rw[a,if_pos e]at r;exact r);have HM:=h_ fun V B (hV:RJ (RO G F) G V B (j,{ x with root:=l,eN:=d }))=>zI G F V B (j,{ x with root:=l,eN:=d }) N nm 1003 2 d (by decide) (by decide) aB hV;clear Y aB;have n:=M.out.f0;have H:=M.out.o0;have v8:=M.out.v8;dsimp only at HM v8;rw[<- aj]at v8;clear aj f ar aw;generalize j.make N nm 1003 2 [d]=m at HM ap ao a;obtain⟨k,⟨T,X,U,W⟩,e4⟩:=m;dsimp only at HM ap ao a;have f:=h_ a;clear a;obtain⟨ah,aq,ad⟩:=M.out.bne;have aM:=ad.symm;have aC:=ah.symm
       go_region_held3 (fun V=>C_ V F.fb 0=some (cD G.ob)/\C_ V G.ob 0=some (cD G.K.mb)/\C_ V G.K.mb 8=some (I_ N))
        (first | (go_keep;done) | exact u | exact⟨NI u.1 (by decide),(Wt aC).trans u.2.1,(Wt ad).trans u.2.2⟩)
        (first
          | (go_at_call 31;refine(HM.out w6.drew _ (M.out.eL (cq.drew _ _))).mono ?_;rintro e w7 ⟨rfl,Z7,z,k7⟩;dsimp only[Wd.val]
             have p4:=z.ff 4;have p5:=z.ff 5;have p6:=z.ff 6;have p7:=z.ff 7;have g4:=z.f4;have g5:=z.f5;have g6:=z.f6;have g7:=z.f7
             have u:=(show C_ w7 F.fb 0=some (cD G.ob)/\C_ w7 G.ob 0=some (cD G.K.mb)/\C_ w7 G.K.mb 8=some (I_ N) from⟨z.f0,z.o0,ap ▸ z.v8⟩)))
       have J7:=h_ z;have E7:=h_ (E6.out.trans ((ef.kt (fw w6)).trans k7));clear z k7 M E6 HM;have ac:=J7.out.Jl;dsimp only at ac;obtain⟨Z8,j8,k8⟩:=J7.out.Nl (x':={ x with root:=l,eN:=d,dA:=⟨T,X,U,W⟩ }) (Ck w7 F.fb (I_ T) (I_ X) (I_ U) (S_ W)) (fun ax hD=>cz (cz (cz (cz hD _) _) _) _) ⟨rfl,rfl,rfl,rfl⟩ ⟨ac.eN,ao,ac.target,ac.eH,ac.vW,ac.rQ⟩;have J8:=h_ j8;have E8:=h_ (E7.out.trans k8);clear j8 k8 ac;generalize ((((w7.setCell ⟨F.fb,4,none⟩ (I_ T)).setCell ⟨F.fb,5,none⟩ (I_ X)).setCell ⟨F.fb,6,none⟩ (I_ U)).setCell ⟨F.fb,7,none⟩ (S_ W))=w8 at J8 E8 |-;clear u p4 p5 p6 p7 g4 g5 g6 g7 J7 E7;try clear H;try clear n;try clear f3;try clear f8;try clear v0;try clear J;try clear v8;try clear v9;try clear vs
       by_cases h4:e4=0
       . subst h4
         have a:=f.out;rw[if_neg (by simp)]at a
         have Y:Oo.pF (k,{ x with root:=l,eN:=d,dA:=⟨T,X,U,W⟩ })=if k.v.x.cF.2.2≠0 then(({ k with v:={ k.v with x:=k.v.x.cF.1 } },{ x with root:=l,eN:=d,dA:=⟨T,X,U,W⟩ }),k.v.x.cF.2.2)else
          (Oo.order ({ k with v:={ k.v with x:=k.v.x.cF.1 } },{ { x with root:=l,eN:=d,dA:=⟨T,X,U,W⟩ } with dq:=Oo.iz x.dq (k.v.root,d) (some k.v.x.cF.2.1) }) (Oo.iG ({ k with v:={ k.v with x:=k.v.x.cF.1 } },{ { x with root:=l,eN:=d,dA:=⟨T,X,U,W⟩ } with dq:=Oo.iz x.dq (k.v.root,d) (some k.v.x.cF.2.1) }) d),0):=rfl
         rw[Y]at a;have P:=h_ (I' G F _ _ _ J8.out);dsimp only at P;clear f Y;generalize k.v.x.cF=t at P a;obtain⟨y2,la,e5⟩:=t;dsimp only at P a;have f:=h_ a;clear a;have n:=J8.out.f0;have H:=J8.out.o0;have v0:=J8.out.v0;go_wp2_with fail;refine ir (P.out) E8 ?_;intro w9 Z9 D E9;try clear H;try clear n;try clear f3;try clear f8;try clear v0;try clear J;try clear v8;try clear v9;try clear vs
         clear P J8 E8;by_cases h5:e5=0
         . subst h5
           have a:=f.out;rw[if_neg (by simp)]at a;obtain⟨r5,al⟩:∃ r5,r5=({ k with v:={ k.v with x:=y2 } }:Rd):=⟨_,rfl⟩;have D:=h_ (show RJ (RO G F) G w9 Z9 (r5,{ x with root:=l,eN:=d,dA:=⟨T,X,U,W⟩ }) from al ▸ D.out);rw[<- al,show k.v.root=r5.v.root from by rw[al]]at a;clear al;obtain⟨ag,aO,kd,aQ,af,aE⟩:=D.out.NG r5.v.root d la ⟨D.out.wW.ok.Be,D.out.wW.ok.Bf⟩ an;have f:=h_ a;clear a;have n:=D.out.f0;have f1:=D.out.f1;have H:=D.out.o0;have J:=D.out.v7;dsimp only at J;have u:=(show C_ ag F.fb 0=some (cD G.ob)/\C_ ag F.fb 1=some (.map (some F.p1))/\C_ ag G.ob 0=some (cD G.K.mb)/\C_ ag G.K.mb 7=some (I_ r5.v.root) from⟨af.f0,af.f1,af.o0,af.v7⟩);go_wp2_with fail
           go_region_held3 (fun V=>C_ V F.fb 0=some (cD G.ob)/\C_ V F.fb 1=some (.map (some F.p1))/\C_ V G.ob 0=some (cD G.K.mb)/\C_ V G.K.mb 7=some (I_ r5.v.root))
            (first | (go_keep;done) | exact u)
            (fail)
           have L:=h_ af;have aH:=h_ (E9.out.trans aE);clear af aE u aO kd D E9;try clear H;try clear n;try clear f1;try clear f3;try clear f8;try clear v0;try clear J;try clear v8;try clear v9;try clear vs
           have a:=f.out;subst a;go_wp2_with fail;have n:=L.out.f0;obtain⟨a2,c2,o2⟩:=L.out.Tc;have q2:=L.out.vX 2;have aA:=L.out.Eu;obtain⟨ah,aq,ad⟩:=L.out.bne;have aL:=L.out.I3;have P:=h_ (Cb G F ag.drew _ _ d (Nw an) (L.out.eL (cq.drew _ _)));have az:=yh _ d L.out.rM
           go_region_held3 (fun V=>C_ V F.fb 0=some (cD G.ob))
            (first | (go_keep;done) | exact u)
            (first | (go_at_call 262;refine P.out.mono ?_;rintro e w8 ⟨a8,c8,rfl,aG,k8⟩;dsimp only;have ai:=(fw ag).trans k8;have u:=ai.cell n id;have t2:=ai.cell o2 id;have tq:=ai.frozen q2 aA id))
           obtain⟨aR,aD,aF⟩:=L.out.wb ai _ a8 c8 aG az;have aJ:=h_ aD;have aI:=h_ (aH.out.trans aF);clear aD aF n o2 q2 aA ah aq ad aL P az aG k8 ai u t2 tq;go_wp2_with fail;go_ret;exact⟨rfl,_,aJ.out,aI.out⟩
         . have a:=f.out
           rw[if_pos h5]at a;have C:=Q.out;rw[a]at C;exact absurd C h5
       . have a:=f.out
         rw[if_pos h4]at a;have C:=Q.out;rw[a]at C;exact absurd C h4
     . have a:=f.out
       rw[if_pos r]at a;have C:=Q.out;rw[a]at C;exact absurd C r
   . have a:=f.out
     rw[if_pos h1]at a;have C:=Q.out;rw[a]at C;exact absurd C h1
end
def EO:Mm Oo:=⟨fun low=>(gr low).isSome,fun _ q=>(q,0),Oo.reset,fun _=>False⟩
theorem gy{K:List UInt8->Option Nat}{x s:List UInt8}{a b:Nat}(h:mY K x a s=some b):a=b\/K s=some b:=by
 unfold mY at h;by_cases e:s=x
 . rw[if_pos e]at h;exact .inl (Option.some.inj h)
 . rw[if_neg e]at h;exact .inr h
theorem EA:∀ s k,gr s=some k->Enters k:=by
 intro s k h;rcases gy h with rfl | h
 . exact fun a w=>call171 a w
 rcases gy h with rfl | h
 . exact fun a w=>call170 a w
 rcases gy h with rfl | h
 . exact fun a w=>call169 a w
 rcases gy h with rfl | h
 . exact fun a w=>call168 a w
 rcases gy h with rfl | h
 . exact fun a w=>call167 a w
 rcases gy h with rfl | h
 . exact fun a w=>call166 a w
 rcases gy h with rfl | h
 . exact fun a w=>call165 a w
 rcases gy h with rfl | h
 . exact fun a w=>call164 a w
 rcases gy h with rfl | h
 . exact fun a w=>call163 a w
 rcases gy h with rfl | h
 . exact fun a w=>call162 a w
 rcases gy h with rfl | h
 . exact fun a w=>call161 a w
 rcases gy h with rfl | h
 . exact fun a w=>call160 a w
 cases h
section
variable (G:Gk) (F:Fk) (w:World) (Z:Nat->Prop) (q:Rd × Oo)
theorem pZ(c:GF G F):tC EO (RO G F) G :=
 ⟨fun h k n=>h.ct k n,fun h=>h.lt,fun a h=>c.no a (by cases b:gr a with | none=>rfl | some k=>rw[show EO.has a=(gr a).isSome from rfl,b]at h;cases h),
  fun a h=>by
   cases b:gr a with
   | none=>rw[show EO.has a=(gr a).isSome from rfl,b]at h;cases h
   | some k=>exact⟨_,_,c.fm a k b,fun d w=>call172 d w,fun _ _ _ e=>e.elim⟩⟩
theorem NO(b:GF G F):F5 EO (RO G F) G:=.inr ⟨_,_,_,b.reset,fun a w=>call173 a w,fun w Z q h=>Nv G F w Z q h⟩
theorem Qu(a:List UInt8)(k:Nat)(p:(Rd × Oo) × Int)(c:gr a=some k)(h:RJ (RO G F) G w Z q)(f:∀ V,RJ (RO G F) G V Z q->Calls prog k #[cD F.fb] V (PJ (RO G F) G Z V p)) :
 Calls prog 172 #[cD G.ob,cD (F.gs a),cD F.gf] w (PJ (RO G F) G Z w p):=by
 obtain⟨Y,D,b,_,_⟩:=h.wV;have r:C_ w (F.gs a) 0=some (.func (.func k) #[] #[]):=cp (b.SH a k c) rfl;have s:C_ w F.gf 0=some (cD F.fb):=cp b.box rfl;have n:∀ (d:Array Value) (w:World),(callFunc k d).run prog w=.ok (.enter k d) w:=EA a k c;have g:=fun V i=>f V i;clear b f c;go_enter func172,ntmps172;go_wp2_with fail;refine(g w h).mono ?_;rintro e o ⟨rfl,m,j,l⟩;go_wp2;go_ret;exact⟨rfl,_,j,l⟩
theorem rS(f:GF G F)(s:List UInt8)(k:Nat)(p:(Rd × Oo) × Int)(I:s.length<=1000000)(g:gr (cG s)=some k)(z:RJ (RO G F) G w Z q)(i:∀ V a,RJ (RO G F) G V a q->Calls prog k #[cD F.fb] V (PJ (RO G F) G a V p)) :
 Calls prog 77 #[cD G.ob,S_ s] w (PJ (RO G F) G Z w p):=by
 have y:=f.fm _ k g;have r:=fun V=>iC V s (by omega);have H:=sL s;have o:=fun V a (b:RJ (RO G F) G V a q)=>Qu G F V a q (cG s) k p g b fun W x=>i W a x;generalize cG s=m at *;have E:∀ (c:Array Value) (w:World),(callFunc 172 c).run prog w=.ok (.enter 172 c) w:=fun c w=>call172 c w;have t:=h_ fun V (b:RJ (RO G F) G V Z q)=>b.parts.elim fun X h=>h.elim fun Y h=>h.1.Sw;have u:=fun V (b:RJ (RO G F) G V Z q)=>b.parts.elim fun X h=>h.elim fun Y h=>h.1.TW;have v:=pZ G F f;clear i f g;go_enter func77,ntmps77;go_wp2_with fail;refine(r _).mono ?_;rintro e C ⟨rfl,j⟩;have d:=z.cL v j;have A:=u _ d
 go_wp2_with (first
  | (at_lookup;refine jd sk _ rfl _ _ 57 rfl _ underlying57 _ (rO _) G.mm G.nm G.fm rfl (t.out _ d) m (show m.length<=maxLen by unfold maxLen;omega) rfl _ y ?_;dsimp only[Option.getD_some,Option.isSome_some]))
 refine(o C Z d).mono ?_;rintro e J ⟨rfl,D,B,l⟩;have n:=(ef.kt j).trans l;clear l A;go_wp2;go_ret;exact⟨rfl,_,B,n⟩
theorem rT(m:GF G F)(s:List UInt8)(P:Rd × Int)(a:RJ (RO G F) G w Z q)(i:∀ X,Gl w X->ej w G X q.1->Calls prog 77 #[cD G.ob,S_ s] w (PR G X w P)) :
 Calls prog 77 #[cD G.ob,S_ s] w (PJ (RO G F) G Z w ((P.1,q.2),P.2)):=by
 obtain⟨X,Y,b,f,h,c⟩:=a.parts;refine(i X ⟨a.gl.1,fun g j e=>a.gl.2 g j (c g (.inl e))⟩ b).mono ?_;rintro e w' ⟨rfl,l,k,d⟩;exact⟨rfl,RJ.Nj a b f h c k d⟩
theorem NP(gf:GF G F)(s:List UInt8)(p:(Rd × Oo) × Int)(hs:s.length<=1000000)(hW:ig s q p)(h0:p.2=0)(hz:RJ (RO G F) G w Z q):Calls Tryz.prog 77 #[cD G.ob,S_ s] w (PJ (RO G F) G Z w p):=by
 cases hW with
 | comp d ho hk hd hc hf hi =>
  refine rT G F w Z q gf s _ hz fun X hg h=>sM G X w q.1 s _ hs rfl (gf.no _ ho) hk _ ?_ hg h
  rw[hd];exact fun V Y hV=>zB G Y V q.1 d hc hf hi hV
 | run d Q ho hk hd hc hi hR =>
  refine rT G F w Z q gf s (q.1.vm Q) hz fun X hg h=>sM G X w q.1 s _ hs rfl (gf.no _ ho) hk _ ?_ hg h
  rw[hd];exact fun V Y hV=>BW G Y V q.1 d _ hc hi (fun V' hV'=>F6 G Y V' q.1 d.xt Q hR hV') hV
 | num n ho hk hd hn =>
  refine rT G F w Z q gf s _ hz fun X hg h=>sM G X w q.1 s _ hs rfl (gf.no _ ho) hk _ ?_ hg h
  rw[hd];simp only
  rw[hn];exact .inl ⟨rfl,rfl⟩
 | obj k hk hf =>
  refine rS G F w Z q gf s k _ hs hk hz fun V Z' hV=>?_
  rcases hf with rfl | rfl | rfl | rfl | rfl | rfl
  . exact Ja G F V Z' q h0 hV
  . exact I4 G F V Z' q hV
  . exact zJ G F V Z' q h0 hV
  . exact Qo G F V Z' q hV
  . exact NA G F V Z' q hV
  . exact Ey G F V Z' q h0 hV
 | Sm hk ha=>exact rS G F w Z q gf s _ _ hs hk hz fun V Z' hV=>zH G F V Z' q ha hV
 | send P hk he hO=>exact rS G F w Z q gf s _ _ hs hk hz fun V Z' hV=>NJ G F V Z' q P he hO hV
theorem Qv(gf:GF G F)(s:List UInt8)(p:(Rd × Oo) × Int)(hs:s.length<=1000000)(hW:TS s q p)(hz:RJ (RO G F) G w Z q):Calls Tryz.prog 77 #[cD G.ob,S_ s] w (PJ (RO G F) G Z w p):=by
 cases hW with
 | vy P hk he hO=>exact rS G F w Z q gf s _ _ hs hk hz fun V Z' hV=>NJ G F V Z' q P he hO hV
 | none_ ho hk hd hn =>
  refine rT G F w Z q gf s (q.1,-13) hz fun X hg h=>sM G X w q.1 s _ hs rfl (gf.no _ ho) hk _ ?_ hg h
  rw[hd];exact .inr ⟨hn,rfl⟩
end
theorem wu(G:Gk)(F:Fk)(z:GF G F)(w:World)(Z:Nat->Prop)(q:Rd × Oo)(t:List UInt8)(ac:(Rd × Oo) × Int)(ht:t.length<=1000000)(hT:fH ((q.1.again t,q.2),0) ac)(N:RJ (RO G F) G w Z q) :
 Calls prog 17 #[cD G.ob,S_ t] w (PJ (RO G F) G Z w ac):=by
 have ok:=pZ G F z;have rs:=NO G F z;have HN:=fun V=>yV V t (by omega);have aj:=h_ fun Q g k hg I=>IS ok w Q Z q g t N k hg I ht;have ak:=h_ fun V a (u:Rd × Oo) (b:RJ (RO G F) G V a u)=>Qd ok V a u b;have ai:=h_ fun V a (u:Rd × Oo) n n0 n1 (b:RJ (RO G F) G V a u)=>zA ok V a u n n0 n1 b;have aw:=h_ fun V a (u:Rd × Oo) s p hs c L (b:RJ (RO G F) G V a u)=>NP G F V a u z s p hs c L b;have av:=h_ fun V a (u:Rd × Oo) s p hs c (b:RJ (RO G F) G V a u)=>Qv G F V a u z s p hs c b;have au:=h_ fun V a (u:Rd × Oo) e M (b:RJ (RO G F) G V a u)=>Qc ok rs V a u e M b;have H:∃ g,C_ w G.ob 1=some (cD g):=(ak.out w Z q N).elim fun g h=>⟨g,h.1⟩;obtain⟨g0,H⟩:=H;have an:=N.rd.elim fun X h=>h.er 1;have ay:=N.rd.elim fun X h=>h.sV.1;clear ok rs z;go_enter func17,ntmps17;go_wp2_with fail;refine(HN w).mono ?_;rintro e Q ⟨rfl,I,P⟩;obtain⟨J,ao⟩:∃ J,J=w.heap.size:=⟨_,rfl⟩;rw[<- ao]at I |-;obtain⟨Z1,j1,e1⟩:=aj.out Q J P (by omega) I;have p1:=P.cell H id;have f1:=P.frozen an ay id;clear I P aj HN H an ao;go_wp2_with fail;generalize Q.setCell ⟨G.ob,1,none⟩ (cD J)=W at j1 e1 |-
 go_loopw [5] (fun lv wr=>∃ (u:Rd × Oo) (ag:Int) (Y:Nat->Prop),lv=I_ ag/\RJ (RO G F) G wr Y u/\ef w Z wr Y/\fH (u,ag) ac) (fun _ wr=>match C_ wr G.K.mb 10 with | some (.int _ n)=>n.toNat | _=>0)
 case atStart=>exact⟨_,0,Z1,rfl,j1,e1,hT⟩
 case round =>
  obtain⟨u,ag,Y,rfl,hj,ae,ax⟩:=hrel;obtain⟨X2,m⟩:=hj.rd;have o0:C_ wr G.ob 0=some (cD G.K.mb):=m.o0;have ah:C_ wr G.K.mb 13=some (.bool u.1.v.dL):=m.UR;have ar:=h_ (show C_ wr G.K.mb 10=some (I_ u.1.v.cI) from m.Ss);have aq:=m.ok.src;have al:=m.fv.ok.LY;have am:=m.fv.ok.Fy;obtain⟨gq,H,r⟩:=ak.out wr Y u hj;have ap:=IQ u.1;clear m hT;cases ax with
  | done _ _ d c =>
   rw[d]at ah;rw[c]at r;clear d c;go_wp2_with fail;refine r.mono ?_;rintro e i ⟨rfl,o,l,f⟩;have E3:=ae.trans f;clear f;go_wp2;go_ret;exact⟨rfl,_,l,E3⟩
  | ok _ p _ _ d c hf j A B =>
   rw[d]at ah;have af:u.1.dt.isEmpty=false:=by cases h:u.1.dt with | nil=>exact absurd h c | cons=>rfl
   have d1:decide (0<u.1.v.cI)=true:=decide_eq_true hf;have U:=h_ fun V a (b:RJ (RO G F) G V a (u.1.next,u.2))=>ai.out V a (u.1.next,u.2) (u.1.v.cI-1) (by omega) (by omega) b;have x:=h_ fun V a (b:RJ (RO G F) G V a (Oo.cH u))=>aw.out V a (Oo.cH u) u.1.dt _ (by omega) j rfl b;have HV:=fun V a (b:RJ (RO G F) G V a (u.1.next,u.2))=>(show C_ V G.ob 0=some (cD G.K.mb)/\C_ V G.K.mb 10=some (I_ u.1.v.cI)/\V.frozen? ⟨G.K.mb,10,none⟩=false from b.rd.elim fun X h=>⟨h.o0,h.Ss,h.fv.er 10⟩);generalize u.1.dt=s at r af x j;have az:wrap64 (u.1.v.cI-1)=u.1.v.cI-1:=IntWalk.wrap64_in _ (by omega);have aa:=h_ B;have ab:=h_ A;clear c j B A d ap aq;go_wp2_with fail;refine r.mono ?_;rintro e i ⟨rfl,o,l,f⟩;obtain⟨p0,aA,pf⟩:=HV i o l;obtain⟨Z4,C,D⟩:=U.out i o l;have J4:=show RJ (RO G F) G (i.setCell ⟨G.K.mb,10,none⟩ (I_ (u.1.v.cI-1))) Z4 (Oo.cH u) from C;have R:=(ae.trans f).trans D;clear f C D al am;go_wp2_with fail;refine(x.out _ _ J4).mono ?_;rintro e w5 ⟨rfl,Z5,O,E⟩;have S:=R.trans E;clear E;have ad:=h_ (O.rd.elim fun X h=>h.Ss);go_wp2;go_roundw;case rel=>exact⟨_,_,_,rfl,O,S,aa.out⟩
   case measure =>
    have:=ab.out;simp only[ar.out,ad.out];omega
  | TT _ p _ y _ d c hf j L h1 M A B =>
   rw[d]at ah;have af:u.1.dt.isEmpty=false:=by cases h:u.1.dt with | nil=>exact absurd h c | cons=>rfl
   have d1:decide (0<u.1.v.cI)=true:=decide_eq_true hf;have U:=h_ fun V a (b:RJ (RO G F) G V a (u.1.next,u.2))=>ai.out V a (u.1.next,u.2) (u.1.v.cI-1) (by omega) (by omega) b;have x:=h_ fun V a (b:RJ (RO G F) G V a (Oo.cH u))=>av.out V a (Oo.cH u) u.1.dt _ (by omega) j b;have HV:=fun V a (b:RJ (RO G F) G V a (u.1.next,u.2))=>(show C_ V G.ob 0=some (cD G.K.mb)/\C_ V G.K.mb 10=some (I_ u.1.v.cI)/\V.frozen? ⟨G.K.mb,10,none⟩=false from b.rd.elim fun X h=>⟨h.o0,h.Ss,h.fv.er 10⟩);generalize u.1.dt=s at r af x j;have az:wrap64 (u.1.v.cI-1)=u.1.v.cI-1:=IntWalk.wrap64_in _ (by omega);have aa:=h_ B;have ab:=h_ A;have T:=h_ fun V a (b:RJ (RO G F) G V a p)=>au.out V a p y M b;have d2:(y == 0)=false:=by simp[L]
   have d3:(y == -2053)=false:=by simp[h1]
   clear L h1 M;clear c j B A d ap aq;go_wp2_with fail;refine r.mono ?_;rintro e i ⟨rfl,o,l,f⟩;obtain⟨p0,aA,pf⟩:=HV i o l;obtain⟨Z4,C,D⟩:=U.out i o l;have J4:=show RJ (RO G F) G (i.setCell ⟨G.K.mb,10,none⟩ (I_ (u.1.v.cI-1))) Z4 (Oo.cH u) from C;have R:=(ae.trans f).trans D;clear f C D al am;go_wp2_with fail;refine(x.out _ _ J4).mono ?_;rintro e w5 ⟨rfl,Z5,O,E⟩;have S:=R.trans E;clear E;replace T:=h_ (T.out w5 Z5 O);go_wp2_with fail;refine T.out.mono ?_;rintro e w6 ⟨rfl,Z6,j6,k6⟩;rw[show EO.fail p y=Oo.fail p y from rfl]at j6;have E6:=S.trans k6;have ad:=h_ (j6.rd.elim fun X h=>h.Ss);clear k6;go_wp2;go_roundw;case rel=>exact⟨_,_,_,rfl,j6,E6,aa.out⟩
   case measure =>
    have:=ab.out;simp only[ar.out,ad.out];omega
theorem zm(w:World):Calls Tryz.prog 102 #[.agg #[.int .u16 8000,.int .u16 80,.int .u8 9,.int .u8 9],.int .u8 4] w fun e w'=>e=.returned (.agg #[I_ 8000,I_ 9,I_ 9,I_ 80,I_ 4])/\K_ w w':=by
 have HB:=h_ (Ji w (.cells #[.int .u16 8000,.int .u16 80,.int .u8 9,.int .u8 9] 33) (.cells #[I_ 8000,I_ 9,I_ 9,I_ 80,I_ 4] 119))
 go_enter Tryz.func102,Tryz.ntmps102
 go_wp2_with fail;have g0:=cp (i:=0) HB.out.2.1 rfl;have g1:=cp (i:=1) HB.out.2.1 rfl;have g2:=cp (i:=2) HB.out.2.1 rfl;have g3:=cp (i:=3) HB.out.2.1 rfl;have g4:=cp (i:=4) HB.out.2.1 rfl;exact bodyPost_ret (v:=.agg #[I_ 8000,I_ 9,I_ 9,I_ 80,I_ 4]) (by simp[results,Tryz.results102,go_sem,g0,g1,g2,g3,g4]) rfl ⟨rfl,HB.out.2.2⟩
theorem QX(w:World)(hg:xM w)(d t r h s:Int)(P:NZ.MX d t r h):Calls Tryz.prog 96 #[.agg #[I_ d,I_ t,I_ r,I_ h,I_ s],.string ⟨#[]⟩] w (wm (VM.fresh d t r s h [] (NZ.y d t r h) 8 16 24 2824) w):=by
 have d8:=P.ok.d8;exact NL w d t r h s [] _ _ _ 8 16 24 2824 P.ok (by decide) (by rw[P.sz];have:=P.ok.t0;have:=P.ok.r0;have:=P.ok.U0;omega) (by decide) hg _ rfl
def Me:VM:=VM.fresh 8000 9 9 4 80 [] (NZ.y 8000 9 9 80) 8 16 24 2824
def Mf(w:World)(e:Ending)(w':World):Prop:=∃ (G:Gk) (F:Fk) (Z:Nat->Prop) (x:Nat),e=.returned (.tuple #[cD F.fb,cD x,.bool true])/\GF G F/\RJ (RO G F) G w' Z (SC Me,Oo.start)/\(∀ g,Z g->w.heap.size<=g)/\K_ w w'
theorem Mk(w:World)(hg:xM w):Calls Tryz.prog 95 #[.agg #[.int .u16 8000,.int .u16 80,.int .u8 9,.int .u8 9],.int .u8 4,.string ⟨#[]⟩] w (Mf w):=by
 have HF:=h_ fun V=>zm V
 have HO:=h_ fun V (k:K_ w V)=>QX V (hg.cL k) 8000 9 9 80 4 BP.pE
 have HX:=h_ fun V=>Pr V 8000 9 9 80 4 [] _ _ _ 8 16 24 2824 BP.pE.ok
 have HN:=h_ fun V x bb c b hc hs=>LU V x bb c (NZ.y 8000 9 9 80) b 4 hc hs
 have HP:=h_ (cx w (.cells #[.int .u16 8000,.int .u16 80,.int .u8 9,.int .u8 9] 33));have KP:=h_ (dR w (.cells #[.int .u16 8000,.int .u16 80,.int .u8 9,.int .u8 9] 33));clear hg
 go_enter Tryz.func95,Tryz.ntmps95
 go_wp2_with fail;refine(HF.out _).mono ?_;rintro e w1 ⟨rfl,k1⟩;have hp:=k1.heap HP.out id;have K1:=h_ (KP.out.trans k1);have W6:=h_ hp;clear hp k1;go_wp2_with fail;have HC:=h_ (cx w1 (.cells #[I_ 8000,I_ 9,I_ 9,I_ 80,I_ 4] 119));have KC:=h_ (K1.out.trans (dR w1 (.cells #[I_ 8000,I_ 9,I_ 9,I_ 80,I_ 4] 119)));refine(HO.out _ KC.out).mono ?_;rintro e w2 ⟨G,F,Z,rfl,gf,j2,z2,k2⟩;have hc2:=k2.heap HC.out id;have c0:=cp (i:=0) hc2 rfl;have c1:=cp (i:=1) hc2 rfl;have c2:=cp (i:=2) hc2 rfl;have c3:=cp (i:=3) hc2 rfl;have K2:=h_ (KC.out.trans k2);have J2:=h_ j2;have pW:=h_ gf;have Z2:=h_ (show ∀ g,Z g->w.heap.size<=g from fun g hg=>Nat.le_trans KC.out.size (z2 g hg))
 clear gf j2 z2 k2 hc2 HO HF HP W6 KP K1 HC KC;go_wp2_with fail;refine(HX.out w2).mono ?_;rintro e w3 ⟨x,bb,c,rfl,hc,hs,hd,hr,q1,q2,q3,q4,q5,q6,k3⟩;have T7:=h_ (HN.out w3 x bb c true hc hs);have J3:=h_ (J2.out.cL (pZ G F pW.out) k3);have K3:=h_ (K2.out.trans k3);clear hc hs hd hr q1 q2 q3 q4 q5 q6 k3 c0 c1 c2 c3 HX HN J2 K2;go_wp2_with fail;refine T7.out.mono ?_;rintro e w4 ⟨g,rfl,k4⟩;have J4:=h_ (J3.out.cL (pZ G F pW.out) k4);have K4:=h_ (K3.out.trans k4);clear k4;go_wp2_with fail
 go_ret3
 exact⟨G,F,Z,g,rfl,pW.out,J4.out,Z2.out,K4.out⟩
def SQ(w:World)(e:Ending)(w':World):Prop:=∃ (G:Gk) (F:Fk) (Z:Nat->Prop),e=.returned (.tuple #[cD F.fb,.bool true])/\GF G F/\RJ (RO G F) G w' Z wT.q0/\(∀ g,Z g->w.heap.size<=g)/\K_ w w'
theorem Jb(w:World)(hg:xM w):Calls Tryz.prog 47 #[] w (SQ w):=by
 have HO:=h_ fun V (k:K_ w V)=>QX V (hg.cL k) 60000 60 200 800 9 wT.pM
 have HF:=h_ fun (V:World) (G:Gk) (F:Fk) (gf:GF G F) Z (hj:RJ (RO G F) G V Z (SC (VM.fresh 60000 60 200 9 800 [] (NZ.y 60000 60 200 800) 8 16 24 2824),Oo.start))=>zA (pZ G F gf) V Z _ 100000 (by decide) (by decide) hj
 have HC:=h_ (cx w (.cells #[I_ 60000,I_ 60,I_ 200,I_ 800,I_ 9] 119));clear hg
 go_enter Tryz.func47,Tryz.ntmps47
 go_wp2_with fail;refine(HO.out _ (cq.refl _ _)).mono ?_;rintro e w1 ⟨G,F,Z,rfl,gf,j1,z1,k1⟩;obtain⟨Z2,j2,e2⟩:=HF.out w1 G F gf Z j1;have J2:=h_ (show RJ (RO G F) G (w1.setCell ⟨G.K.mb,10,none⟩ (I_ 100000)) Z2 wT.q0 from j2)
 have E2:=h_ e2;have pW:=h_ gf;have f0:=j1.f0;have o0:=j1.o0;obtain⟨pv,Jd⟩:∃ v,w1.cell? ⟨G.K.mb,10,none⟩=some v:=j1.rd.elim fun X h=>⟨_,h.Ss⟩
 have fr:w1.frozen? ⟨G.K.mb,10,none⟩=false:=j1.rd.elim fun X h=>h.fv.er 10
 have KA:=h_ (k1.dh e2.k (fun i hi e=>by have:=z1 i e;omega))
 have HZ2:=h_ (show ∀ g,Z2 g->w.heap.size<=g from fun g hg=>(e2.n g hg).elim (z1 g) (fun e=>Nat.le_trans k1.size e))
 clear gf j1 z1 k1 j2 e2 HO HF;go_wp2_with fail;go_ret2
 exact⟨G,F,Z2,rfl,pW.out,J2.out,HZ2.out,KA.out⟩
def sO(w:World)(a:Option Addr)(L:List Fo.Act):Prop :=
 ∀ i (h:i<L.length),∃ g o,a=some ⟨g,o,none⟩/\w.cell? ⟨g,o+i*6,none⟩=some (.int .u8 (L[i].kind:Int))/\w.cell? ⟨g,o+i*6+1,none⟩=some (.int .u8 (L[i].p:Int))/\w.cell? ⟨g,o+i*6+2,none⟩=some (.int .u8 (L[i].c:Int)) /\
  w.cell? ⟨g,o+i*6+3,none⟩=some (.int .u8 (L[i].cZ:Int))/\w.cell? ⟨g,o+i*6+4,none⟩=some (.int .u16 (L[i].n:Int))/\w.cell? ⟨g,o+i*6+5,none⟩=some (.bool L[i].lP)
theorem sO.cL{w w':World}{a:Option Addr}{L:List Fo.Act}(h:sO w a L)(k:K_ w w'):sO w' a L:=fun i hi=>by
 obtain⟨g,o,e,h0,h1,h2,h3,h4,h5⟩:=h i hi;exact⟨g,o,e,k.cell h0 id,k.cell h1 id,k.cell h2 id,k.cell h3 id,k.cell h4 id,k.cell h5 id⟩
structure Gh(j:Nat)(w0 w:World)(G:Gk)(F:Fk)(tb:Nat)(P:List Fo.Act)(TL:List dr)(q:Rd × Oo)(Z T:Nat->Prop)(D:eF)(S:List (List UInt8))(τ:Nat->Int)(f:Int):Prop where
 rj:RJ (RO G F) G w Z q
 st:Fo.St wT.pf D S 0 none f q
 rel:Fo.ou wT.pf P TL D S τ wT.x1
 NR:lV T w tb P TL
 tok:Fo.NY P TL
 zt:∀ g,Z g->¬ T g
 z0:∀ g,Z g->w0.heap.size<=g
 t0:∀ g,T g->w0.heap.size<=g
 k:K_ w0 w
 fu:100000-700*(j:Int)<=f
 hr:q.1.v.x.cu<=2832+700*(j:Int)
 pj:P.length<=j
 nn:∀ a ∈ P,a.n<=65535
 g4:4<=w0.heap.size
def ph(j:Nat)(w0 w:World)(G:Gk)(F:Fk)(tb:Nat):Prop:=∃ P TL q Z T D S τ f,Gh j w0 w G F tb P TL q Z T D S τ f
theorem lV.lt{T:Nat->Prop}{w:World}{tb:Nat}{P:List Fo.Act}{TL:List dr}(h:lV T w tb P TL):∀ g,T g->g<w.heap.size:=by
 obtain⟨N,a,b,ca,cb,h1,h2,h3,h4,h5⟩:=h;exact h5
theorem Gh.cL{j:Nat}{w0 w w':World}{G:Gk}{F:Fk}(gf:GF G F){tb:Nat}{P:List Fo.Act}{TL:List dr}{q:Rd × Oo}{Z T:Nat->Prop}{D:eF}{S:List (List UInt8)}{τ:Nat->Int}{f:Int}(h:Gh j w0 w G F tb P TL q Z T D S τ f)(k:K_ w w'):Gh j w0 w' G F tb P TL q Z T D S τ f :=
 { h with rj:=h.rj.cL (pZ G F gf) k,NR:=h.NR.ct k (fun _ _=>id),k:=h.k.trans k }
theorem vp(x:Fo.Act)(h:rK x)(n:Nat)(hn:n<=1000):(x.dJ n).length<=1000000:=by
 have hk:∀ i,i<=1000->(Fo.eS i).length<=6:=fun i hi=>by
  have:=(Fo.jw i (by omega)).2
  show(Fo.dg i).length+1<=6
  omega
 have hm:=sP x h
 have hmt:(Fo.dz (x.cZ % 5)).length+1+x.body.dJ.length<=100:=by
  unfold Fo.Act.Ys at hm;simp only[List.length_append,List.length_cons]at hm
  omega
 unfold Fo.Act.dJ;split
 . have h1:=hk n hn
   have h2:(x.ml n).length<=6:=by
    unfold Fo.Act.ml
    cases hp:x.cg n with
    | none=>decide
    | some i =>
     have hi:i<n:=by
      unfold Fo.Act.cg at hp;split at hp
      . cases hp;assumption
      . cases hp
     exact hk i (by omega)
   unfold Fo.Act.pH Fo.gi;simp only[List.length_append,List.length_cons,List.length_nil]
   omega
 . have h1:(Fo.eS (x.c % n)).length<=6:=by
    by_cases h0:n=0
    . subst h0
      rw[Nat.mod_zero];have:=(Fo.jw x.c (by have:=h.c;omega)).2
      show(Fo.dg x.c).length+1<=6
      omega
    . exact hk _ (by have:=Nat.mod_lt x.c (show 0<n by omega);omega)
   unfold Fo.Act.nZ;simp only[List.length_append,List.length_cons,List.length_nil]
   omega
def C'(j:Nat)(w0 w:World)(G:Gk)(F:Fk)(tb:Nat)(Z T:Nat->Prop)(e:Ending)(w2:World):Prop :=
 ∃ t:List UInt8,e=.returned (S_ t)/\cq T w w2/\∀ V,K_ w2 V->Calls Tryz.prog 17 #[cD G.ob,S_ t] V fun e w3=>e=.returned (I_ 0)/\ph (j+1) w0 w3 G F tb/\cq Z V w3
theorem Da{j:Nat}{w0 w:World}{G:Gk}{F:Fk}(gf:GF G F){tb:Nat}{P:List Fo.Act}{TL:List dr}{q:Rd × Oo}{Z T:Nat->Prop}{D:eF}{S:List (List UInt8)}{τ:Nat->Int}{f:Int}(h:Gh j w0 w G F tb P TL q Z T D S τ f)(x:Fo.Act)(hx:rK x)(hP:j<40) :
 Calls Tryz.prog 48 #[cD tb,.agg #[.int .u8 (x.kind:Int),.int .u8 (x.p:Int),.int .u8 (x.c:Int),.int .u8 (x.cZ:Int),.int .u16 (x.n:Int),.bool x.lP]] w (C' j w0 w G F tb Z T):=by
 have hTL:=h.tok.len;have Ml:=h.pj;refine(Jc T w tb P TL x h.NR h.tok (by omega) hx).mono ?_
 rintro e w2 ⟨rfl,T2,t2,ev⟩;refine⟨_,rfl,ev.k,fun V kv=>?_⟩
 have hfu:=h.fu;have Ga:=h.hr;obtain⟨p,D2,S2,τ2,f2,r1,r2,r3,r4,r5⟩:=Fo.My h.rel (Fo.lU h.st (x.dJ TL.length)) x hx.n (by omega) (Fo.jU q (x.dJ TL.length)) (by omega) (by show q.1.v.x.cu+700<=60000;omega)
 have r3:p.1.v.x.cu<=q.1.v.x.cu+700:=r3
 have hj:RJ (RO G F) G V Z q:=by
  obtain⟨⟨X,Y,p1,p2,p3,p4⟩,p5,p6⟩:=h.rj;exact RJ.cL (pZ G F gf) ⟨⟨X,Y,p1.ct ev.k (fun g hg=>h.zt g (p4 g (.inl hg))),RO.ct p2 ev.k (fun g hg=>h.zt g (p4 g (.inr hg))),p3,p4⟩,fun g hg=>Nat.lt_of_lt_of_le (p5 g hg) ev.k.size,⟨p6.1.ct ev.k (fun g hg e=>by have:=h.t0 g e;have:=h.g4;omega),p6.2⟩⟩ kv
 refine(wu G F gf V Z q (x.dJ TL.length) (p,0) (vp x hx _ (by omega)) r1 hj).mono ?_
 rintro e w3 ⟨rfl,Z3,j3,e3⟩;have PC:=t2.ct kv (fun _ _=>id)
 have hk2:=ev.k.size;have hzl:=h.rj.lt;have IT:∀ g,T2 g->¬ Z g:=fun g hg hz=>(ev.n g hg).elim (h.zt g hz) (fun e=>by have:=hzl g hz;omega)
 refine⟨rfl,⟨P++[x],_,p,Z3,T2,D2,S2,τ2,f2,j3,r4,r5,PC.ct e3.k IT,h.tok.grow x,fun g hg ht=>?_,fun g hg=>?_,fun g hg=>?_,?_,?_,?_,?_,fun a ha=>?_,?_⟩,e3.k⟩
 . exact(e3.n g hg).elim (fun e=>IT g ht e) (fun e=>by have:=PC.lt g ht;omega)
 . exact(e3.n g hg).elim (h.z0 g) (fun e=>Nat.le_trans (Nat.le_trans h.k.size hk2) (Nat.le_trans kv.size e))
 . exact(ev.n g hg).elim (h.t0 g) (fun e=>Nat.le_trans h.k.size e)
 . exact((h.k.dh ev.k fun i hi e=>by have:=h.t0 i e;omega).trans kv).dh e3.k fun i hi e=>by have:=h.z0 i e;omega
 . omega
 . omega
 . rw[List.length_append,List.length_singleton];omega
 . rcases List.mem_append.1 ha with ha | ha
   . exact h.nn a ha
   . rw[List.mem_singleton.1 ha];exact hx.n
 . exact h.g4
theorem zn{j:Nat}{w0 w:World}{G:Gk}{F:Fk}(gf:GF G F){tb:Nat}{P:List Fo.Act}{TL:List dr}{q:Rd × Oo}{Z T:Nat->Prop}{D:eF}{S:List (List UInt8)}{τ:Nat->Int}{f:Int}(h:Gh j w0 w G F tb P TL q Z T D S τ f){c s:Nat}(hc:c<TL.length)(hs:s<5)(hP:j<40) :
 Calls Tryz.prog 17 #[cD G.ob,S_ (Fo.gb c s)] w fun e w3=>(∃ l:Int,e=.returned (I_ l))/\ph (j+1) w0 w3 G F tb/\cq Z w w3:=by
 have hTL:=h.tok.len;have Ml:=h.pj;have hfu:=h.fu;have Ga:=h.hr;obtain⟨D2,S2,f2,p,l,r1,r4,r5,r2,r3⟩:=Fo.CZ h.rel h.nn (Fo.lU h.st (Fo.gb c s)) hc (by omega) hs (by omega) (Fo.jU q (Fo.gb c s)) (by omega) (by show q.1.v.x.cu+40<=60000;omega)
 have r3:p.1.v.x.cu=q.1.v.x.cu+32:=r3
 have hlen:(Fo.gb c s).length<=1000000:=by
  have h1:=(Fo.jw c (by omega)).2
  have h2:=(Fo.jw s (by omega)).2
  unfold Fo.gb Fo.gi Fo.eS Fo.dz Fo.se;simp only[List.length_append,List.length_cons,List.length_nil]
  omega
 refine(wu G F gf w Z q (Fo.gb c s) (p,l) hlen r1 h.rj).mono ?_;rintro e w3 ⟨rfl,Z3,j3,e3⟩;have PD:∀ g,T g->¬ Z g:=fun g hg hz=>h.zt g hz hg
 refine⟨⟨l,rfl⟩,⟨P,TL,p,Z3,T,D2,S2,τ,f2,j3,r4,r5,h.NR.ct e3.k PD,h.tok,fun g hg ht=>?_,fun g hg=>?_,h.t0,?_,by omega,by omega,by omega,h.nn,h.g4⟩,e3.k⟩
 . exact(e3.n g hg).elim (fun e=>PD g ht e) (fun e=>by have:=h.NR.lt g ht;omega)
 . exact(e3.n g hg).elim (h.z0 g) (fun e=>Nat.le_trans h.k.size e)
 . exact h.k.dh e3.k fun i hi e=>by have:=h.z0 i e;omega
end Go.Proofs.dS
