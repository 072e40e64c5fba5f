/- A part of WalkG. No condition. -/
import Derived.Test.YthhfkhhhclmimaaGreatDoorM43
set_option linter.unusedVariables false
set_option linter.unusedSimpArgs false
open Go.Proofs.Tryz
set_option maxRecDepth 10000
set_option maxHeartbeats 4000000
namespace Go.Proofs.dS
open Go Go.RowKit Go.Proofs.K
structure wy(N:Nat->Prop)(w:World)(tb:Nat)(P:List Fo.Act)(TL:List dr)(a b:Option Addr)(ca cb:Nat):Prop where
 head:w.heap[tb]?=some (.cells #[.slice a TL.length ca,.slice b P.length cb] 101 (0,0))
 j7:my N w a TL.length ca TL
 dM:yR w b cb P
 nt:¬ N tb
 nb:∀ g,dF b=some g->¬ N g/\g≠tb
theorem wrap_small(k:Nat)(h:k<=1000):wrap64 (k:Int)=(k:Int)/\IntKind.i64.wrap (k:Int)=(k:Int):=⟨IntWalk.wrap64_in _ (by omega),IntWalk.i64_in _ (by omega)⟩
theorem NV(a:Fo.Act):∀ u ∈ od a,u.oneCell'=true:=by
 intro u b;unfold od at b;simp at b;rcases b with rfl | rfl | rfl | rfl | rfl | rfl <;> rfl
theorem Je(P:List Fo.Act)(x:Fo.Act):(P++[x]).flatMap od=P.flatMap od++od x:=by simp
def lV(T:Nat->Prop)(w:World)(tb:Nat)(P:List Fo.Act)(TL:List dr):Prop :=
 ∃ N a b ca cb,wy N w tb P TL a b ca cb/\(∀ g,N g->T g)/\T tb/\(∀ g,dF b=some g->T g)/\∀ g,T g->g<w.heap.size
theorem wy.ct{N:Nat->Prop}{w w':World}{c:Nat}{P:List Fo.Act}{d:List dr}{a b:Option Addr}{e f:Nat}(h:wy N w c P d a b e f){S:Nat->Prop}(k:cq S w w')(i:¬ S c)(j:∀ g,N g->¬ S g)(l:∀ g,dF b=some g->¬ S g):wy N w' c P d a b e f :=
 ⟨k.heap h.head i,h.j7.ct k j,fp.ct h.dM k l,h.nt,h.nb⟩
theorem lV.ct{T:Nat->Prop}{w w':World}{l:Nat}{P:List Fo.Act}{e:List dr}(h:lV T w l P e){S:Nat->Prop}(k:cq S w w')(d:∀ g,T g->¬ S g):lV T w' l P e:=by
 obtain⟨N,a,b,m,n,o,f,i,j,p⟩:=h;exact⟨N,a,b,m,n,o.ct k (d _ i) (fun g c=>d g (f g c)) (fun g c=>d g (j g c)),f,i,j,fun g c=>Nat.lt_of_lt_of_le (p g c) k.size⟩
theorem sP(x:Fo.Act)(h:rK x):x.Ys.length<=100:=by
 have a:=(Fo.jw (x.cZ % 5) (by omega)).2;have b:=(Fo.jw x.n h.n).2;unfold Fo.Act.Ys Fo.Act.body Fo.Body.dJ Fo.dz;rw[show dE.gC (x.n:Int) 10=Fo.dg x.n from rfl];split <;> simp only[List.length_append,List.length_cons,List.length_nil] <;> omega
def nk(T:Nat->Prop)(w:World)(tb:Nat)(P:List Fo.Act)(TL:List dr)(x:Fo.Act)(e:Ending)(w':World):Prop :=
 e=.returned (S_ (x.dJ TL.length))/\∃ T',lV T' w' tb (P++[x]) (Fo.grow TL P.length x)/\ef w T w' T'
theorem yr{T N:Nat->Prop}{w w':World}{c:Nat}{d:List Fo.Act}{f:List dr}{i b:Option Addr}{j l:Nat}(p:∀ g,T g->g<w.heap.size)(m:T c)(h:wy N w' c d f i b j l)(n:∀ g,N g->T g\/w.heap.size<=g)(o:∀ g,N g->g<w'.heap.size)
 (q:∀ g,dF b=some g->T g\/w.heap.size<=g) (k:cq T w w'):∃ e,lV e w' c d f/\ef w T w' e:=by
 have s:=k.size;have r:∀ g,dF b=some g->g<w'.heap.size:=fun g a=>fp.lt h.dM a;refine⟨fun g=>g=c\/N g\/dF b=some g,⟨N,i,b,j,l,h,fun g a=>.inr (.inl a),.inl rfl,fun g a=>.inr (.inr a),fun g a=>?_⟩,⟨k,fun g a=>?_⟩⟩
 . rcases a with rfl | a | a
   . exact Nat.lt_of_lt_of_le (p _ m) s
   . exact o g a
   . exact r g a
 . rcases a with rfl | a | a
   . exact .inl m
   . exact n g a
   . exact q g a
theorem nk.of{T:Nat->Prop}{w c e:World}{d:Nat}{P:List Fo.Act}{b:List dr}{x:Fo.Act}(h:∃ a,lV a c d (P++[x]) (Fo.grow b P.length x)/\ef w T c a)(k:K_ c e){v:Value}(i:v=S_ (x.dJ b.length)):nk T w d P b x (.returned v) e:=by
 obtain⟨a,f,g⟩:=h;exact⟨by rw[i],a,f.ct k (fun _ _=>id),g.trans (ef.kt k)⟩
theorem Jc(T:Nat->Prop)(w:World)(o:Nat)(P:List Fo.Act)(d:List dr)(x:Fo.Act)(bI:lV T w o P d)(a1:Fo.NY P d)(hP:P.length<=1000)(R:rK x) :
 Calls prog 48 #[cD o,.agg #[.int .u8 (x.kind:Int),.int .u8 (x.p:Int),.int .u8 (x.c:Int),.int .u8 (x.cZ:Int),.int .u16 (x.n:Int),.bool x.lP]] w (nk T w o P d x):=by
 obtain⟨N,a,b,ca,cb,h,O,G,aa,K⟩:=bI;have aV:d.length<=1000:=Nat.le_trans a1.len hP;have HT:=h_ (And.intro O (And.intro G (And.intro aa K)));have aN:=h_ a1;clear O G aa K a1;have f:=cx w (.cells #[.int .u8 (x.kind:Int),.int .u8 (x.p:Int),.int .u8 (x.c:Int),.int .u8 (x.cZ:Int),.int .u16 (x.n:Int),.bool x.lP] 103);have ka:=dR w (.cells #[.int .u8 (x.kind:Int),.int .u8 (x.p:Int),.int .u8 (x.c:Int),.int .u8 (x.cZ:Int),.int .u16 (x.n:Int),.bool x.lP] 103);have hd:=ka.heap h.head id;have HP:=h_ (fp.ct h.dM ka (fun _ _=>id));have H:=h_ h;have aI:=cA hd;have aH:o≠w.heap.size:=by have:=cA h.head;omega
 have K0:=h_ ka;clear h;go_enter func48,ntmps48;go_upto_region 1 with fail;obtain⟨m,aY⟩:∃ m,m=w.heap.size:=⟨_,rfl⟩;rw[<- aY]at f aH |-;have aM:=h_ (show w.heap.size<=m from Nat.le_of_eq aY.symm);clear aY ka;generalize w.alloc (.cells #[.int .u8 (x.kind:Int),.int .u8 (x.p:Int),.int .u8 (x.c:Int),.int .u8 (x.cZ:Int),.int .u16 (x.n:Int),.bool x.lP] 103)=W at f hd aI HP K0 |-;have t0:C_ W o 0=some (.slice a d.length ca):=cp hd rfl;have t1:C_ W o 1=some (.slice b P.length cb):=cp hd rfl;have x0:C_ W m 0=some (.int .u8 (x.kind:Int)):=cp f rfl;have x1:C_ W m 1=some (.int .u8 (x.p:Int)):=cp f rfl;have x2:C_ W m 2=some (.int .u8 (x.c:Int)):=cp f rfl;have x3:C_ W m 3=some (.int .u8 (x.cZ:Int)):=cp f rfl;have x4:C_ W m 4=some (.int .u16 (x.n:Int)):=cp f rfl;have x5:C_ W m 5=some (.bool x.lP):=cp f rfl;have f1:W.frozen? ⟨o,1,none⟩=false:=cB hd;have ax:P.length+1<=maxLen:=by unfold maxLen;omega
 have av:(P.length+1)*8<=140737488355328:=by omega
 have ao:=HP.out.ct ((dR W (.cells #[.int .u8 (x.kind:Int),.int .u8 (x.p:Int),.int .u8 (x.c:Int),.int .u8 (x.cZ:Int),.int .u16 (x.n:Int),.bool x.lP] 103)).trans (cq.drew _ _)) (fun _ _=>id);have au:∀ j u,(od x)[j]?=some u->(W.alloc (.cells #[.int .u8 (x.kind:Int),.int .u8 (x.p:Int),.int .u8 (x.c:Int),.int .u8 (x.cZ:Int),.int .u16 (x.n:Int),.bool x.lP] 103)).drew.cell? ((⟨W.heap.size,0,none⟩:Addr).add j)=some u:=by
  intro j u hu;rw[Addr.add_lit,Nat.zero_add];exact cp (cx W _) (by simpa[od] using hu)
 have aA:=NV x;have ac:¬ dF b=some o:=fun e=>(H.out.nb o e).2 rfl;have kN:=(dR W (.cells #[.int .u8 (x.kind:Int),.int .u8 (x.p:Int),.int .u8 (x.c:Int),.int .u8 (x.cZ:Int),.int .u16 (x.n:Int),.bool x.lP] 103)).trans (fw _);have zN:(W.alloc (.cells #[.int .u8 (x.kind:Int),.int .u8 (x.p:Int),.int .u8 (x.c:Int),.int .u8 (x.cZ:Int),.int .u16 (x.n:Int),.bool x.lP] 103)).drew.heap.size=W.heap.size+1:=World.size_alloc _ _;have kX:∀ z,cq (fun k=>dF b=some k) (W.alloc (.cells #[.int .u8 (x.kind:Int),.int .u8 (x.p:Int),.int .u8 (x.c:Int),.int .u8 (x.cZ:Int),.int .u16 (x.n:Int),.bool x.lP] 103)).drew z->cq (fun k=>dF b=some k) W z:=fun z I=>(kN.mono (fun _ _ e=>e.elim)).dh I (fun i hi e=>e);have bu:∀ z,cq (fun k=>dF b=some k) W z->C_ z o 1=some (.slice b P.length cb)/\z.frozen? ⟨o,1,none⟩=false:=fun z I=>⟨I.cell t1 ac,I.frozen f1 aI ac⟩
 go_cut [] (fun X=>∃ b' c' z,X=z.setCell ⟨o,1,none⟩ (.slice b' (P.length+1) c')/\fp z 103 6 b' (P.length+1) c' (P.flatMap od++od x)/\cq (fun k=>dF b=some k) W z/\(dF b'=dF b\/∃ ad,dF b'=some ad/\W.heap.size<=ad))
 case first =>
  go_region_law (first
   | (refine uF rfl (.tmp 14) (.tmp 16) 94 rfl 103 _ 6 8 underlying94 PY rfl (by decide) b P.length cb (P.flatMap od) rfl ao ⟨W.heap.size,0,none⟩ 1 1 (od x) rfl rfl au aA ax av ?_
      intro a4 c4 z o4 I l4;have bt:=kX z I
      obtain⟨q1,q2⟩:=bu z bt))
  all_goals
   go_wp2_with fail;go_meet;exact⟨_,_,_,rfl,o4,bt,l4.imp id fun e=>⟨_,e,by rw[zN];omega⟩⟩
 case rest =>
  obtain⟨Y,c4,z,rfl,o4,I,l4⟩:=hcut;have bl:=I.heap hd ac;have bm:=I.heap f (fun e=>by have:=fp.lt H.out.dM e;have:=aM.out;omega);have a9:dF Y≠some o:=by
   rcases l4 with e | ⟨ad,e,hz⟩
   . rw[e];exact ac
   . rw[e];intro L;have:=Option.some.inj L;omega
  have k5:cq (fun g=>g=o) z (z.setCell ⟨o,1,none⟩ (.slice Y (P.length+1) c4)):=cq.setCell _ _ _ (fun _=>rfl);have aw:=cz bl (i:=1) (v:=.slice Y (P.length+1) c4);have aE:=k5.heap bm aH.symm;have o5:yR (z.setCell ⟨o,1,none⟩ (.slice Y (P.length+1) c4)) Y c4 (P++[x]):=by
   have o6:=o4.ct k5 (fun g f e=>a9 (by rw[f,e]));unfold yR;rw[Je,List.length_append];exact o6
  have K5:=h_ (((K0.out.mono (T:=fun g=>g=o\/dF b=some g) (fun _ _ e=>e.elim)).trans (I.mono (fun _ _ e=>.inr e))).trans (k5.mono (fun _ _ e=>.inl e)));generalize bh:z.setCell ⟨o,1,none⟩ (.slice Y (P.length+1) c4)=W5 at aw aE o5 K5 |-;have bK:W5.heap.size=z.heap.size:=by rw[<- bh];exact rD _ _ _
  have ap:=h_ (show ∀ g,dF Y=some g->dF b=some g\/w.heap.size<=g from fun g f=>by
   rcases l4 with e | ⟨ad,e,hz⟩
   . exact .inl (e ▸ f)
   . rw[e]at f;have:=Option.some.inj f;have:=K0.out.size;exact .inr (by omega))
  have aD:=h_ a9
  have R5:=h_ (H.out.j7.ct K5.out (fun g f e=>by
   rcases e with e | e
   . exact H.out.nt (e ▸ f)
   . exact(H.out.nb g e).1 f))
  have O5:=h_ o5;have aJ:=h_ aw;have aL:=h_ aE;have y0:=cp (i:=0) aw rfl;have y1:=cp (i:=1) aw rfl;have z3:=cp (i:=3) aE rfl;clear bh hd f t0 t1 x0 x1 x2 x3 x4 x5 f1 ax av ao au aA ac kN zN kX bu o4 I l4 bl bm a9 k5 aw aE o5 bK HP;have s0:(0:Int)<=(x.cZ:Int)/\(x.cZ:Int)<256:=by have:=R.cZ;omega
  have bM:wrap64 ((x.cZ:Int) % 5)=(x.cZ:Int) % 5:=IntWalk.wrap64_in _ (by omega);have bN:wrap64 ((x.cZ:Int) % 5+1)=(x.cZ:Int) % 5+1:=IntWalk.wrap64_in _ (by omega);have bO:wrap64 (((P.length+1:Nat):Int)-1)=(P.length:Int):=by rw[IntWalk.wrap64_in _ (by omega)];omega
  have bL:o<W5.heap.size:=cA aJ.out;have bH:m<W5.heap.size:=cA aL.out
  have bw:=h_ (show IntKind.i64.wrap (IntKind.i64.wrap ((x.cZ:Int).tmod 5)+1)=(x.cZ:Int) % 5+1 from by
   rw[Int.tmod_eq_emod_of_nonneg s0.1,IntWalk.i64_in ((x.cZ:Int) % 5) (by omega),IntWalk.i64_in _ (by omega)])
  have bx:=h_ (show IntKind.i64.wrap (P.length:Int)=(P.length:Int) from IntWalk.i64_in _ (by omega));have bv:=h_ trivial;go_upto_region 2 with fail
  go_cut [5] (fun v5 X=>∃ A,A=X/\∃ M,v5=cD M/\W5.heap.size<=M/\A.heap[M]?=some (.cells #[I_ ((x.cZ:Int) % 5+1),I_ (P.length:Int)] 191 (0,0))/\K_ W5 A)
  case first =>
   go_region_law (fail)
   all_goals
    go_wp2_with fail;go_meet;refine⟨_,rfl,W5.heap.size,rfl,Nat.le_refl _,?_,(cq.alloc _ _ _).trans (cq.drew _ _)⟩;rw[bw.out,bx.out];exact cx W5 _
  case rest =>
   obtain⟨A,rfl,M,rfl,bF,aX,k6⟩:=hcut;have aK:=h_ (k6.heap aJ.out id);have aq:=h_ (k6.heap aL.out id);have be:=h_ aX;have R6:=h_ (R5.out.ct k6 (fun _ _=>id));have O6:=h_ (fp.ct O5.out k6 (fun _ _=>id));have K6:=h_ (K5.out.trans (k6.mono (fun _ _ e=>e.elim)));have bb:=h_ (show(w.heap.size<=m/\m<M/\o<M)/\M<A.heap.size from⟨⟨aM.out,by omega,by omega⟩,cA aX⟩);clear bF aX k6 aJ aL R5 O5 K5 y0 y1 z3 bM bN bO bL bH aM bv;have y0:C_ A o 0=some (.slice a d.length ca):=cp (i:=0) aK.out rfl;have z0:C_ A m 0=some (.int .u8 (x.kind:Int)):=cp (i:=0) aq.out rfl;have bo:(0:Int)<=(x.kind:Int)/\(x.kind:Int)<256:=by have:=R.kind;omega
   have bc:=h_ (show ∀ u,(((x.kind:Int) % 3 == 0)=true->u=true)->(((x.kind:Int) % 3 == 0)=false->u=((d.length:Int) == 0))->u=x.lS d.length from fun u t Z=>by
    unfold Fo.Act.lS;by_cases e:x.kind % 3=0
    . rw[t (by simp;omega),decide_eq_true e];rfl
    . have L:((x.kind:Int) % 3 == 0)=false:=by simp;omega
      rw[Z L,decide_eq_false e,Bool.false_or];by_cases e3:d.length=0
      . simp[e3]
      . rw[decide_eq_false e3];exact beq_eq_false_iff_ne.2 (by omega))
   go_upto_region 4 with fail
   go_cut [44] (fun bT X=>bT=.bool (x.lS d.length)/\A=X)
   case first =>
    by_cases e:(x.kind:Int) % 3=0
    . have L:((x.kind:Int) % 3 == 0)=true:=by simp[e]
      have e3:=h_ (bc.out true (fun _=>rfl) (fun e4=>by rw[L]at e4;cases e4));clear e;go_wp2_with fail;go_meet;exact⟨by rw[<- e3.out],rfl⟩
    . have L:((x.kind:Int) % 3 == 0)=false:=by simp[e]
      have e3:=h_ (bc.out ((d.length:Int) == 0) (fun e4=>by rw[L]at e4;cases e4) (fun _=>rfl));clear e;go_wp2_with fail;go_meet;exact⟨by rw[<- e3.out],rfl⟩
   case rest =>
    obtain⟨rfl,rfl⟩:=hcut;cases am:x.lS d.length with
    | true =>
     have aR:=h_ (show x.dJ d.length=x.pH d.length from by unfold Fo.Act.dJ;rw[if_pos am]);have aB:=h_ (show Fo.grow d P.length x=d++[⟨Class.cU (x.cg d.length),0,9,[(x.s1,(P.length:Int))]⟩] from by unfold Fo.grow;rw[if_pos am]);have z1:C_ A m 1=some (.int .u8 (x.p:Int)):=cp (i:=1) aq.out rfl;have aS:=h_ fun V (k:K_ A V)=>k.cell z1 id;have bJ:(0:Int)<=(x.p:Int)/\(x.p:Int)<256:=by have:=R.p;omega
     have ba:=h_ fun V=>pG x.p (by have:=R.p;omega) V;have bR:wrap64 (x.p:Int)=(x.p:Int):=IntWalk.wrap64_in _ (by omega);have bS:IntKind.i64.wrap (x.p:Int)=(x.p:Int):=IntWalk.i64_in _ (by omega)
     go_upto_if 49 with (fail)
     go_cut [7,8] (fun v7 v8 X=>∃ l,l=X/\v7=I_ (Class.cU (x.cg d.length))/\v8=S_ (x.ml d.length)/\K_ A l)
     case first =>
      by_cases e:x.p<d.length
      . have e1:decide ((x.p:Int)<(d.length:Int))=true:=decide_eq_true (by omega)
        have ak:x.cg d.length=some x.p:=by unfold Fo.Act.cg;rw[if_pos e]
        have aO:=h_ ak;have aP:=h_ (show x.ml d.length=Fo.eS x.p from by unfold Fo.Act.ml;rw[ak]);clear ak;go_wp2_with fail;have d1:=aS.out A.drew (cq.drew _ _)
        go_region_held3 (fun V=>C_ V m 1=some (.int .u8 (x.p:Int)))
         (first | exact d1 | exact aS.out _ kc)
         ((go_at_call 52;refine(ba.out _).mono ?_;rintro e w3 ⟨rfl,k3⟩;have kc:=(fw A).trans k3))
        go_wp2_with fail;go_meet;exact⟨_,rfl,by rw[aO.out];rfl,by rw[aP.out],kc⟩
      . have e1:decide ((x.p:Int)<(d.length:Int))=false:=decide_eq_false (by omega)
        have ak:x.cg d.length=none:=by unfold Fo.Act.cg;rw[if_neg e]
        have aO:=h_ ak;have aP:=h_ (show x.ml d.length=[45] from by unfold Fo.Act.ml;rw[ak]);clear ak;go_wp2_with fail;go_meet;exact⟨_,rfl,by rw[aO.out];rfl,by rw[aP.out],cq.refl _ _⟩
     case rest =>
      obtain⟨l,rfl,rfl,rfl,C⟩:=hcut;obtain⟨_,V,hV⟩:=R6.out.ct C (fun _ _=>id);have HV:=h_ hV;have a3:=hV.len;have bg:=h_ a3;have Q:=C.heap aK.out id;have ah:=C.heap be.out id;have t0:C_ l o 0=some (.slice a d.length ca):=cp (i:=0) Q rfl;have f0:l.frozen? ⟨o,0,none⟩=false:=cB Q;have p0:C_ l M 0=some (I_ ((x.cZ:Int) % 5+1)):=cp (i:=0) ah rfl;have p1:C_ l M 1=some (I_ (P.length:Int)):=cp (i:=1) ah rfl;have al:=cA Q;have bG:=cA ah;have ac:¬ dF a=some o:=fun e=>H.out.nt (hV.gB o e);generalize Class.cU (x.cg d.length)=U at aB |-;have kA:=((dR l (.cells #[I_ ((x.cZ:Int) % 5+1),I_ (P.length:Int)] 191)).trans (dR _ (.cells #[I_ U,I_ 0,I_ 9,.slice (some ⟨l.heap.size,0,none⟩) 1 1] 194))).trans (fw _);have ao:=hV.own.ct kA (fun _ _=>id);rw[a3]at ao;have au:∀ j u,(RC.cells ⟨U,0,9,some ⟨l.heap.size,0,none⟩,1,1⟩)[j]?=some u->((l.alloc (.cells #[I_ ((x.cZ:Int) % 5+1),I_ (P.length:Int)] 191)).alloc (.cells #[I_ U,I_ 0,I_ 9,.slice (some ⟨l.heap.size,0,none⟩) 1 1] 194)).drew.cell? ((⟨l.heap.size+1,0,none⟩:Addr).add j)=some u:=by
       have t:=OC (l.alloc (.cells #[I_ ((x.cZ:Int) % 5+1),I_ (P.length:Int)] 191)) ⟨U,0,9,some ⟨l.heap.size,0,none⟩,1,1⟩;rw[World.size_alloc]at t;exact t
      have aA:=Kn ⟨U,0,9,some ⟨l.heap.size,0,none⟩,1,1⟩;have ax:d.length+1<=maxLen:=by unfold maxLen;omega
      have av:(d.length+1)*48<=140737488355328:=by omega
      clear a3;have a7:¬ dF a=some l.heap.size:=fun e=>by have:=HV.out.own.lt e;omega
      have bp:((l.alloc (.cells #[I_ ((x.cZ:Int) % 5+1),I_ (P.length:Int)] 191)).alloc (.cells #[I_ U,I_ 0,I_ 9,.slice (some ⟨l.heap.size,0,none⟩) 1 1] 194)).drew.heap[l.heap.size]?=some (.cells #[I_ ((x.cZ:Int) % 5+1),I_ (P.length:Int)] 191 (0,0)):=(dp _ _ (by simp)).trans (cx _ _)
      have bf:=h_ (show l.heap.size+2<=((l.alloc (.cells #[I_ ((x.cZ:Int) % 5+1),I_ (P.length:Int)] 191)).alloc (.cells #[I_ U,I_ 0,I_ 9,.slice (some ⟨l.heap.size,0,none⟩) 1 1] 194)).drew.heap.size from by
       show l.heap.size+2<=((l.alloc _).alloc _).heap.size;rw[World.size_alloc,World.size_alloc]
       omega)
      go_upto_region 8 with fail
      go_cut [] (fun X=>∃ D E q,q.setCell ⟨o,0,none⟩ (.slice D (d.length+1) E)=X/\fp q 194 4 D (d.length+1) E (V.flatMap RC.cells++RC.cells ⟨U,0,9,some ⟨l.heap.size,0,none⟩,1,1⟩)/\cq (fun g=>dF a=some g) l q/\(dF D=dF a\/∃ ad,dF D=some ad/\l.heap.size+2<=ad)/\q.heap[l.heap.size]?=some (.cells #[I_ ((x.cZ:Int) % 5+1),I_ (P.length:Int)] 191 (0,0)))
      case rest =>
       obtain⟨D,E,q,rfl,o8,r,l8,m8⟩:=hcut;obtain⟨B,ab⟩:∃ B,B=q.setCell ⟨o,0,none⟩ (.slice D (d.length+1) E):=⟨_,rfl⟩;have S:cq (fun g=>g=o) q B:=by rw[ab];exact cq.setCell _ _ _ (fun _=>rfl)
       have aZ:=bb.out;have aT:A.heap.size<=l.heap.size:=C.size;have a0:=cA m8;obtain⟨O,G,aa,K⟩:=HT.out;have af:∀ g,N g->g<w.heap.size:=fun g f=>K g (O g f);have a5:w.heap.size<=A.heap.size:=K6.out.size;have a2:=K o G;have aU:q.heap.size=B.heap.size:=by rw[ab];exact(rD _ _ _).symm
       have br:RC.Is (fun g=>N g\/(l.heap.size<=g/\g<q.heap.size)) q ⟨U,0,9,some ⟨l.heap.size,0,none⟩,1,1⟩ ⟨U,0,9,[(x.s1,(P.length:Int))]⟩:=by
        refine⟨rfl,rfl,rfl,rfl,Nat.le_refl _,fun g f=>?_,fun i hi=>?_⟩
        . obtain rfl:l.heap.size=g:=Option.some.inj f
          exact⟨.inr ⟨Nat.le_refl _,a0⟩,a0⟩
        . obtain rfl:i=0:=Nat.lt_one_iff.1 hi
          have es:x.s1=(x.cZ:Int) % 5+1:=by unfold Fo.Act.s1;omega
          exact⟨_,0,rfl,(cp (i:=0) m8 rfl).trans (by rw[<- es];rfl),cp (i:=1) m8 rfl⟩
       have V8:=HV.out.So r _ _ br (by rw[bg.out];exact o8)
        (l8.elim .inl fun⟨ad,e,hz⟩=>.inr fun g f=>by rw[e]at f;have:=Option.some.inj f;omega)
        (fun g f _=>.inl f)
        (fun g f=>l8.elim (fun e=>.inl (HV.out.gB g (e ▸ f))) fun⟨ad,e,hz⟩=>.inr ⟨by rw[e]at f;have:=Option.some.inj f;omega,fp.lt o8 f⟩)
        (fun g f L=>by
          obtain rfl:l.heap.size=g:=Option.some.inj f;rcases l8 with e | ⟨ad,e,hz⟩
          . exact a7 (e ▸ L)
          . rw[e]at L;have:=Option.some.inj L;omega)
       have bi:∀ g,dF Y=some g->¬ dF a=some g:=fun g f e=>by
        have t:=HV.out.gB g e;rcases ap.out g f with Z | Z
        . exact(H.out.nb g Z).1 t
        . have:=af g t;omega
       have R9:my (fun g=>N g\/(l.heap.size<=g/\g<q.heap.size)) B D (Fo.grow d P.length x).length E (Fo.grow d P.length x):=by
        have h9:my (fun g=>N g\/(l.heap.size<=g/\g<q.heap.size)) q D (Fo.grow d P.length x).length E (Fo.grow d P.length x):=by
         rw[aB.out];exact⟨rfl,_,V8⟩
        refine h9.ct S fun g f e=>?_;subst e;rcases f with f | f
        . exact H.out.nt f
        . omega
       have bn:(Fo.grow d P.length x).length=d.length+1:=by rw[aB.out];simp
       have ar:wy (fun g=>N g\/(l.heap.size<=g/\g<q.heap.size)) B o (P++[x]) (Fo.grow d P.length x) D Y E c4:=by
        refine⟨?_,R9,?_,?_,fun g f=>⟨?_,?_⟩⟩
        . rw[bn,ab,List.length_append]
          exact cz (i:=0) (r.heap Q ac) _
        . exact fp.ct (fp.ct (fp.ct O6.out C (fun _ _=>id)) r bi) S (fun g f e=>aD.out (e ▸ f))
        . rintro (t | t)
          . exact H.out.nt t
          . omega
        . rintro (t | t)
          . rcases ap.out g f with Z | Z
            . exact(H.out.nb g Z).1 t
            . have:=af g t;omega
          . have:=fp.lt O6.out f;omega
        . exact fun e=>aD.out (e ▸ f)
       have K9:cq T w B:=(((K6.out.mono (fun g _ e=>e.elim (fun e=>e ▸ G) (aa g))).trans (C.mono (fun _ _ e=>e.elim))).dh r (fun i hi e=>O i (HV.out.gB i e))).trans (S.mono (fun g _ e=>e ▸ G));have TM:=h_ (yr K G ar (fun g f=>f.elim (fun h=>.inl (O g h)) (fun h=>.inr (by omega))) (fun g f=>f.elim (fun h=>by have:=af g h;omega) (fun h=>by omega)) (fun g f=>(ap.out g f).imp (aa g) id) K9);have F:=S.heap (r.heap (C.heap aq.out id) (fun e=>by have:=af m (HV.out.gB m e);omega)) (show ¬ m=o by omega);rw[<- ab];have aj:=h_ fun V=>BG x R V;have ai:=h_ fun V=>pG d.length (by omega) V;unfold PQ at aj;have b0:(Fo.eS d.length).length<=6:=by
        have:=(Fo.jw d.length (by omega)).2;show(Fo.dg d.length).length+1<=6;omega
       have b1:(x.ml d.length).length<=6:=by
        unfold Fo.Act.ml;cases hp:x.cg d.length with
        | none=>decide
        | some i =>
         have hi:i<d.length:=by
          unfold Fo.Act.cg at hp;split at hp
          . cases hp;assumption
          . cases hp
         have:=(Fo.jw i (by omega)).2;show(Fo.dg i).length+1<=6;omega
       have b2:x.Ys.length<=100:=sP x R
       have HW:=h_ (show [99,108,97,115,115,32]++Fo.eS d.length++[32]++x.ml d.length++[32,109,101,116,104,111,100,32]++x.Ys++[101,110,100,99,108,97,115,115,32,111,98,106,101,99,116,32]++Fo.eS d.length++[32,111]++Fo.eS d.length++[10]=x.dJ d.length from by
        rw[aR.out];unfold Fo.Act.pH Fo.Act.Ys Fo.gi
        simp only[List.append_assoc,List.cons_append,List.nil_append])
       clear ab S aZ aT a0 K af a5 a2 aU br V8 bi R9 bn ar K9 o8 r l8 m8 O G aa ac a7 kA ao au aA ax av bp bf C Q ah t0 f0 p0 p1 al bG HV bg hV V aB;generalize Fo.eS d.length=s at b0 HW ai;generalize x.ml d.length=PN at b1 HW |-;generalize x.Ys=MT at b2 HW aj;have z0:=cp (i:=0) F rfl;have z1:=cp (i:=1) F rfl;have z2:=cp (i:=2) F rfl;have z3:=cp (i:=3) F rfl;have z4:=cp (i:=4) F rfl;have z5:=cp (i:=5) F rfl
       have ae:=h_ fun V (J:K_ B V)=>(show C_ V m 0=some (.int .u8 (x.kind:Int))/\C_ V m 1=some (.int .u8 (x.p:Int))/\C_ V m 2=some (.int .u8 (x.c:Int))/\C_ V m 3=some (.int .u8 (x.cZ:Int))/\C_ V m 4=some (.int .u16 (x.n:Int))/\C_ V m 5=some (.bool x.lP) from
        ⟨J.cell z0 id,J.cell z1 id,J.cell z2 id,J.cell z3 id,J.cell z4 id,J.cell z5 id⟩)
       have ay:=fw B;obtain⟨d0,d1,d2,d3,d4,d5⟩:=ae.out _ ay;have l1:¬ 9223372036854775807<6+s.length:=by omega
       have l2:¬ 9223372036854775807<6+s.length+1:=by omega
       have l3:¬ 9223372036854775807<6+s.length+1+PN.length:=by omega
       have l4:¬ 9223372036854775807<6+s.length+1+PN.length+8:=by omega
       have l5:¬ 9223372036854775807<6+s.length+1+PN.length+8+MT.length:=by omega
       have l6:¬ 9223372036854775807<6+s.length+1+PN.length+8+MT.length+16:=by omega
       have l7:¬ 9223372036854775807<6+s.length+1+PN.length+8+MT.length+16+s.length:=by omega
       have l8:¬ 9223372036854775807<6+s.length+1+PN.length+8+MT.length+16+s.length+2:=by omega
       have l9:¬ 9223372036854775807<6+s.length+1+PN.length+8+MT.length+16+s.length+2+s.length:=by omega
       have bU:¬ 9223372036854775807<6+s.length+1+PN.length+8+MT.length+16+s.length+2+s.length+1:=by omega
       clear F bo bJ bR bS z0 z1 z2 z3 z4 z5 b0 b1 b2 s0 aH aV R hP aI y0 aS ba;go_upto_region 9 with fail
       go_region_held3 (fun V=>C_ V m 0=some (.int .u8 (x.kind:Int))/\C_ V m 1=some (.int .u8 (x.p:Int))/\C_ V m 2=some (.int .u8 (x.c:Int))/\C_ V m 3=some (.int .u8 (x.cZ:Int))/\C_ V m 4=some (.int .u16 (x.n:Int))/\C_ V m 5=some (.bool x.lP))
        (first | exact⟨d0,d1,d2,d3,d4,d5⟩ | exact ae.out _ bs | exact ae.out _ a6 | exact ae.out _ an | exact ae.out _ az)
        (first
          | (go_at_call 52;have kk:=a6;refine(ai.out _).mono ?_;rintro e u4 ⟨rfl,I⟩;have bs:=a6.trans I)
          | (go_at_call 52;have kk:=an;refine(ai.out _).mono ?_;rintro e u3 ⟨rfl,k3⟩;have a6:=an.trans k3)
          | (go_at_call 97;refine(aj.out _).mono ?_;rintro e u2 ⟨rfl,k2⟩;have an:=az.trans k2)
          | (go_at_call 52;refine(ai.out _).mono ?_;rintro e u1 ⟨rfl,k1⟩;have az:=ay.trans k1))
       go_wp2_with fail;go_ret;refine nk.of TM.out bs ?_;rw[<- HW.out];simp only[pd,List.append_assoc];rfl
      go_region_law (first
       | (refine uF rfl (.tmp 61) (.tmp 66) 99 rfl 194 _ 4 48 underlying99 Km rfl (by decide) a d.length ca (V.flatMap RC.cells) rfl ao ⟨l.heap.size+1,0,none⟩ 1 1 (RC.cells ⟨U,0,9,some ⟨l.heap.size,0,none⟩,1,1⟩) rfl rfl au aA ax av ?_
          intro D E q o8 r l8;have q1:C_ q o 0=some (.slice a d.length ca):=r.cell (kA.cell t0 id) ac
          have q2:q.frozen? ⟨o,0,none⟩=false:=r.frozen (kA.frozen f0 al id) (Nat.lt_of_lt_of_le al kA.size) ac))
      all_goals
       go_wp2_with fail;go_meet;exact⟨_,_,_,rfl,o8,((kA.mono (T:=fun g=>dF a=some g) (fun _ _ e=>e.elim)).trans r),l8.imp id (fun e=>⟨_,e,bf.out⟩),r.heap bp a7⟩
    | false =>
     have aR:=h_ (show x.dJ d.length=x.nZ d.length from by unfold Fo.Act.dJ;rw[if_neg (by rw[am];simp)]);have aQ:=h_ (aN.out.Sq x am);have bq:0<d.length:=by
      unfold Fo.Act.lS at am;simp only[Bool.or_eq_false_iff,decide_eq_false_iff_not]at am;omega
     have z2:C_ A m 2=some (.int .u8 (x.c:Int)):=cp (i:=2) aq.out rfl;have bj:(0:Int)<=(x.c:Int)/\(x.c:Int)<256:=by have:=R.c;omega
     have bC:0<(d.length:Int):=by omega
     have bB:((d.length:Int) == 0)=false:=beq_eq_false_iff_ne.2 (by omega);have bE:wrap64 (x.c:Int)=(x.c:Int):=IntWalk.wrap64_in _ (by omega);have bD:IntKind.i64.wrap (x.c:Int)=(x.c:Int):=IntWalk.i64_in _ (by omega);have aW:(x.c:Int) % (d.length:Int)=((x.c % d.length:Nat):Int):=(Int.natCast_emod _ _).symm;have bk:(x.c:Int).tmod (d.length:Int)=((x.c % d.length:Nat):Int):=by rw[Int.tmod_eq_emod_of_nonneg bj.1];exact aW
     have aG:x.c % d.length<d.length:=Nat.mod_lt _ bq
     have bd:=h_ (show x.nZ d.length=[114,101,100,101,102,105,110,101,32]++Fo.eS (x.c % d.length)++[32]++x.Ys++[10] from by
      unfold Fo.Act.nZ Fo.Act.Ys
      simp only[List.append_assoc,List.cons_append,List.nil_append])
     generalize x.c % d.length=k at aQ aW bk aG bd;have aF:k<=1000:=Nat.le_of_lt (Nat.lt_of_lt_of_le aG aV);obtain⟨bQ,bP⟩:=wrap_small k aF;go_upto_region 10 with fail;go_quiet (fail);clear bQ bP bk aW bE bD z2;have C:=cq.drewN (fun _=>False) A nq;generalize A.drewN nq=l at C |-;have Q:=C.heap aK.out id;have ah:=C.heap be.out id;obtain⟨O,G,aa,K⟩:=HT.out;have af:∀ g,N g->g<w.heap.size:=fun g f=>K g (O g f);have t0:C_ l o 0=some (.slice a d.length ca):=cp (i:=0) Q rfl;have f0:l.frozen? ⟨o,0,none⟩=false:=cB Q;have al:=cA Q;have p0:C_ l M 0=some (I_ ((x.cZ:Int) % 5+1)):=cp (i:=0) ah rfl;have p1:C_ l M 1=some (I_ (P.length:Int)):=cp (i:=1) ah rfl;have ag:=fw l;have es:x.s1=(x.cZ:Int) % 5+1:=by unfold Fo.Act.s1;omega
     have aC:=h_ (O' (fun g=>N g\/l.drew.heap.size<=g) l.drew a d.length ca d k x.s1 (P.length:Int) (((R6.out.ct C (fun _ _=>id)).ct ag (fun _ _=>id)).mono fun g f _=>.inl f) aN.out.ok (fun g f=>.inr f) aG (by omega) (fun y hy=>Nat.le_trans (aN.out.S6 y hy) (by omega)));rw[aQ.out]at aC;rw[es]at aC;have n0:∀ q,K_ l.drew q->C_ q o 0=some (.slice a d.length ca)/\q.frozen? ⟨o,0,none⟩=false:=fun q r=>⟨r.cell (ag.cell t0 id) id,r.frozen (ag.frozen f0 al id) (Nat.lt_of_lt_of_le al ag.size) id⟩;go_upto_region 11 with fail
     go_cut [] (fun X=>∃ B,B=X/\∃ D E q,q.setCell ⟨o,0,none⟩ (.slice D (Fo.grow d P.length x).length E)=B/\my (fun g=>N g\/l.drew.heap.size<=g) q D (Fo.grow d P.length x).length E (Fo.grow d P.length x)/\K_ l.drew q)
     case first =>
      go_region_law (first
       | (go_simp;go_at_call 98;refine aC.out.mono ?_;rintro e q ⟨D,E,rfl,r8,r⟩;dsimp only;obtain⟨q1,q2⟩:=n0 q r))
      all_goals
       go_wp2_with fail;go_meet;exact⟨_,rfl,_,_,_,rfl,r8,r⟩
     case rest =>
      obtain⟨B,rfl,D,E,q,ab,r8,r⟩:=hcut;have S:cq (fun g=>g=o) q B:=by rw[<- ab];exact cq.setCell _ _ _ (fun _=>rfl)
      have aZ:=bb.out;have aT:A.heap.size<=l.heap.size:=C.size;have bz:l.drew.heap.size=l.heap.size:=rfl;have a5:w.heap.size<=A.heap.size:=K6.out.size;have a2:=K o G;have aU:q.heap.size=B.heap.size:=by rw[<- ab];exact(rD _ _ _).symm
      have bA:=r.size;have R9:my (fun g=>N g\/(l.heap.size<=g/\g<q.heap.size)) B D (Fo.grow d P.length x).length E (Fo.grow d P.length x):=by
       refine(r8.mono (N':=fun g=>N g\/(l.heap.size<=g/\g<q.heap.size)) fun g f hl=>f.imp id fun e=>⟨e,hl⟩).ct S fun g f e=>?_;subst e;rcases f with f | f
       . exact H.out.nt f
       . omega
      have ar:wy (fun g=>N g\/(l.heap.size<=g/\g<q.heap.size)) B o (P++[x]) (Fo.grow d P.length x) D Y E c4:=by
       refine⟨?_,R9,?_,?_,fun g f=>⟨?_,?_⟩⟩
       . rw[<- ab,List.length_append]
         exact cz (i:=0) (r.heap (ag.heap Q id) id) _
       . exact fp.ct (fp.ct (fp.ct O6.out (C.trans ag) (fun _ _=>id)) r (fun _ _=>id)) S (fun g f e=>aD.out (e ▸ f))
       . rintro (t | t)
         . exact H.out.nt t
         . omega
       . rintro (t | t)
         . rcases ap.out g f with Z | Z
           . exact(H.out.nb g Z).1 t
           . have:=af g t;omega
         . have:=fp.lt O6.out f;omega
       . exact fun e=>aD.out (e ▸ f)
      have K9:cq T w B:=(((K6.out.mono (fun g _ e=>e.elim (fun e=>e ▸ G) (aa g))).trans ((C.trans ag).mono (fun _ _ e=>e.elim))).trans (r.mono (fun _ _ e=>e.elim))).trans (S.mono (fun g _ e=>e ▸ G));have TM:=h_ (yr K G ar (fun g f=>f.elim (fun h=>.inl (O g h)) (fun h=>.inr (by omega))) (fun g f=>f.elim (fun h=>by have:=af g h;omega) (fun h=>by omega)) (fun g f=>(ap.out g f).imp (aa g) id) K9);have F:=S.heap (r.heap (ag.heap (C.heap aq.out id) id) id) (show ¬ m=o by omega);have aj:=h_ fun V=>BG x R V;have ai:=h_ fun V=>pG k (Nat.le_trans aF (by decide)) V;unfold PQ at aj;have b0:(Fo.eS k).length<=6:=by
       have:=(Fo.jw k (Nat.le_trans aF (by decide))).2;show(Fo.dg k).length+1<=6;omega
      have b2:x.Ys.length<=100:=sP x R;have HW:=h_ (aR.out.trans bd.out);clear ab S aZ aT bz K af a5 a2 aU bA R9 ar K9 r r8 O G aa C Q ah t0 f0 p0 p1 al aQ aC n0 ag es;generalize Fo.eS k=s at b0 HW ai;generalize x.Ys=MT at b2 HW aj;have z0:=cp (i:=0) F rfl;have z1:=cp (i:=1) F rfl;have z2:=cp (i:=2) F rfl;have z3:=cp (i:=3) F rfl;have z4:=cp (i:=4) F rfl;have z5:=cp (i:=5) F rfl
      have ae:=h_ fun V (J:K_ B V)=>(show C_ V m 0=some (.int .u8 (x.kind:Int))/\C_ V m 1=some (.int .u8 (x.p:Int))/\C_ V m 2=some (.int .u8 (x.c:Int))/\C_ V m 3=some (.int .u8 (x.cZ:Int))/\C_ V m 4=some (.int .u16 (x.n:Int))/\C_ V m 5=some (.bool x.lP) from
       ⟨J.cell z0 id,J.cell z1 id,J.cell z2 id,J.cell z3 id,J.cell z4 id,J.cell z5 id⟩)
      have ay:=fw B;obtain⟨d0,d1,d2,d3,d4,d5⟩:=ae.out _ ay;have l1:¬ 9223372036854775807<9+s.length:=by omega
      have l2:¬ 9223372036854775807<9+s.length+1:=by omega
      have l3:¬ 9223372036854775807<9+s.length+1+MT.length:=by omega
      have l4:¬ 9223372036854775807<9+s.length+1+MT.length+1:=by omega
      clear F bo z0 z1 z2 z3 z4 z5 b0 b2 s0 aH aV R hP aI y0 bj bC bB aG aF bq;go_upto_region 12 with fail
      go_region_held3 (fun V=>C_ V m 0=some (.int .u8 (x.kind:Int))/\C_ V m 1=some (.int .u8 (x.p:Int))/\C_ V m 2=some (.int .u8 (x.c:Int))/\C_ V m 3=some (.int .u8 (x.cZ:Int))/\C_ V m 4=some (.int .u16 (x.n:Int))/\C_ V m 5=some (.bool x.lP))
       (first | exact⟨d0,d1,d2,d3,d4,d5⟩ | exact ae.out _ an | exact ae.out _ az)
       (first
         | (go_at_call 97;refine(aj.out _).mono ?_;rintro e u2 ⟨rfl,k2⟩;have an:=az.trans k2)
         | (go_at_call 52;refine(ai.out _).mono ?_;rintro e u1 ⟨rfl,k1⟩;have az:=ay.trans k1))
      go_wp2_with fail;go_ret;refine nk.of TM.out an ?_;rw[HW.out];simp only[pd,List.append_assoc];rfl
end Go.Proofs.dS
