/- A part of WalkG. No condition. -/
import Derived.Test.YthhfkhhhclmimaaGreatDoorM35
import Derived.Test.YthhfkhhhclmimaaGreatDoorM16
set_option linter.unusedVariables false
set_option linter.unusedSimpArgs false
open Go.Proofs.Tryz
set_option maxRecDepth 10000
set_option maxHeartbeats 4000000
namespace Go.Proofs.dS
open Go Go.RowKit Go.Proofs.K Go.Proofs.tI
section
variable (K:Bk) (w:World) (v:VM)
end
section
variable (K:Bk) (w:World) (v:VM)
theorem Pv(D:Int)(f:Nat)(R:VM->Int->Int × Int)(z:vz f R)(y c g:Nat)(L:List Int)(h:dZ w K v)(xg:K.X g)(F:w.cell? ⟨g,0,none⟩=some (bY f))(s:oA w y L)(G:L.length=1)(E:∀ x ∈ L,jD x) :
 Calls prog 413 #[cD K.mb,.slice (some ⟨y,0,none⟩) 1 c,cD g] w (PV K w (VM.nH R v L)):=by
 obtain⟨x,rfl⟩:∃ x,L=[x]:=List.length_eq_one_iff.1 G;have aa:∀ (C:Array Value) (w:World),(callFunc f C).run prog w=.ok (.enter f C) w:=z.L8;have T:C_ w y 0=some (I_ x):=s.cell (i:=0) (by simp);have S:jD x:=E x (by simp);have W:=h_ (s.nf h);have k:=h_ fun (q:fP w)=>z.ok K q.1 v x (h.cL q.2) S;have b:VM.nH R v [x]=if(R v x).2≠0 then(v,(R v x).2)else v.push [(R v x).1]:=rfl;generalize VM.nH R v [x]=Q at b |-;generalize R v x=r at b k;obtain⟨n,e⟩:=r;simp only at b k;have l:=h_ b;have A:=fun (q:fP w)=>q.2.cell F id;have I:=fun (q:fP w)=>q.2.cell T id;unfold bY at A F;have B:=h_ h;have Y:=h_ (cq.refl K.ey w);clear h b s G E z;by_cases o:e=0
 . subst o
   have b:=l.out;rw[if_neg (by simp)]at b;subst b;clear l;have J:=h_ fun V (P:dZ V K v)=>jh K V v n 2 P;go_enter func413,ntmps413;go_wp2_with fail;refine Go.Proofs.K.cW ?vb ?vc ?_;case vb=>kernel_rfl
   case vc=>kernel_rfl
   repeat ((with_reducible refine wpQuiet_step ?_);intro d a;go_simp;first | ((with_reducible refine a _ ?_);clear a d) | (refine a _ ?_;clear a d) | (apply Exists.intro;refine⟨fun _=>?_,a _ ?_⟩;(first | exact Go.Proofs.K.gO (k.out _));clear a d))
   with_reducible refine wpQuiet_nil ?_
   intro H t;obtain⟨⟨U,j⟩,u⟩:=t;subst u;have m:=h_ (B.out.cL j);have p:=h_ (lK K j);clear A I j k;have O:=m.out.m1;go_wp2_with fail;refine nv (J.out H m.out) p ?_;intro w2 N M;try clear O
   go_wp2_with fail;go_ret;exact⟨rfl,N.out,M.out⟩
 . have Z:(e != 0)=true:=by simp[o]
   have b:=l.out;rw[if_pos o]at b;subst b;clear l o;go_enter func413,ntmps413;go_wp2_with fail;refine Go.Proofs.K.cW ?Dc ?Dd ?_;case Dc=>kernel_rfl
   case Dd=>kernel_rfl
   repeat ((with_reducible refine wpQuiet_step ?_);intro d a;go_simp;first | ((with_reducible refine a _ ?_);clear a d) | (refine a _ ?_;clear a d) | (apply Exists.intro;refine⟨fun _=>?_,a _ ?_⟩;(first | exact Go.Proofs.K.gO (k.out _));clear a d))
   with_reducible refine wpQuiet_nil ?_
   intro H t;obtain⟨⟨U,j⟩,u⟩:=t;subst u;have m:=h_ (B.out.cL j);have p:=h_ (lK K j);clear A I j k;go_wp2_with fail;go_ret;exact⟨rfl,m.out,p.out⟩
end
section
variable (K:Bk) (w:World) (v:VM)
theorem VM.Pw(a b:Int):v.send a b=if(Obj.send v.x.mem v.root a b).2.2≠0 then(v,(Obj.send v.x.mem v.root a b).2.2)else v.method (Obj.send v.x.mem v.root a b).1 a:=rfl
theorem Px(a j:Int)(h:dZ w K v):Calls prog 361 #[cD K.mb,I_ a,I_ j] w (PV K w (v.send a j)):=by
 have d:=VM.Pw v a j;generalize v.send a j=Q at d |-;have i:=h_ fun (q:fP w)=>Ln q.1 K.b K.bb v.x.mem v.root a j (h.cL q.2).vm.sp.mem;generalize Obj.send v.x.mem v.root a j=r at d i;obtain⟨xt,n,e⟩:=r;simp only at d i;have t:=h_ fun V (E:dZ V K v)=>sH K V v xt a E;have k:=h_ d;have z:=fun (q:fP w)=>q.2.cell h.m0 id;have A:=fun (q:fP w)=>q.2.cell h.m7 id;have B:=fun (q:fP w)=>q.2.cell h.ms id;have u:=h_ h;have G:=h_ (cq.refl K.ey w);clear h d;by_cases l:e=0
 . subst l
   have d:=k.out;rw[if_neg (by simp)]at d;subst d;clear k;go_enter func361,ntmps361;go_wp2_with fail;refine Go.Proofs.K.cW ?iX ?iY ?_;case iX=>kernel_rfl
   case iY=>kernel_rfl
   repeat ((with_reducible refine wpQuiet_step ?_);intro f c;go_simp;first | ((with_reducible refine c _ ?_);clear c f) | (refine c _ ?_;clear c f) | (apply Exists.intro;refine⟨fun _=>?_,c _ ?_⟩;(first | exact Go.Proofs.K.gO (i.out _));clear c f))
   with_reducible refine wpQuiet_nil ?_
   intro y p;obtain⟨⟨F,g⟩,s⟩:=p;subst s;have o:=h_ (u.out.cL g);have m:=h_ (lK K g);clear z A B g i;go_wp2_with fail;refine nv (t.out y o.out) m ?_;intro I D C
   skip
   go_wp2_with fail;go_ret;exact⟨rfl,D.out,C.out⟩
 . have H:(e != 0)=true:=by simp[l]
   have d:=k.out;rw[if_pos l]at d;subst d;clear k l t;go_enter func361,ntmps361;go_wp2_with fail;refine Go.Proofs.K.cW ?nM ?nO ?_;case nM=>kernel_rfl
   case nO=>kernel_rfl
   repeat ((with_reducible refine wpQuiet_step ?_);intro f c;go_simp;first | ((with_reducible refine c _ ?_);clear c f) | (refine c _ ?_;clear c f) | (apply Exists.intro;refine⟨fun _=>?_,c _ ?_⟩;(first | exact Go.Proofs.K.gO (i.out _));clear c f))
   with_reducible refine wpQuiet_nil ?_
   intro y p;obtain⟨⟨F,g⟩,s⟩:=p;subst s;have o:=h_ (u.out.cL g);have m:=h_ (lK K g);clear z A B g i;go_wp2_with fail;go_ret;exact⟨rfl,o.out,m.out⟩
end
theorem Py(D:Int):DR D 1 360 (VM.jk fun v a=>let q:=v.inline;if q.2.2≠0 then(q.1,q.2.2)else q.1.send a q.2.1):=by
 refine⟨fun y w=>call360 y w,?_⟩;intro K w v B c L h A f p o;obtain⟨x,rfl⟩:∃ x,L=[x]:=List.length_eq_one_iff.1 p;have C:C_ w B 0=some (I_ x):=f.cell (i:=0) (by simp);have H:jD x:=o x (by simp);have s:=h_ (f.nf h);have E:=h_ f;clear f p o;have F:=h_ h;have m:=h_ (cq.refl K.ey w);have g:=h_ (kV K w v h);clear h A;unfold VM.jk;simp only[List.getD_cons_zero];generalize v.inline=q at g |-;obtain⟨k,n,e⟩:=q;simp only;by_cases d:e=0
 . subst d
   rw[if_neg (by simp)];have l:=h_ fun V (z:dZ V K k)=>Px K V k x n z;generalize k.send x n=q at l |-;go_enter func360,ntmps360;go_wp2_with fail;refine nv (g.out) m ?_;intro r j b
   skip
   have I:=b.out.cell C s.out;go_wp2_with fail;refine nv (l.out r j.out) b ?_;intro J u t
   skip
   go_wp2_with fail;go_ret;exact⟨rfl,u.out,t.out⟩
 . rw[if_pos d]
   have G:(e != 0)=true:=by simp[d]
   clear d;go_enter func360,ntmps360;go_wp2_with fail;refine nv (g.out) m ?_;intro r j b
   skip
   go_wp2_with fail;go_ret;exact⟨rfl,j.out,b.out⟩
theorem Bj:pD 365 (fun v=>if v.r.depth<2 then(v,-6)else
 let q:=v.jO
 let p:={ q.1 with ip:=q.2.1 }.jO
 ({ p.1 with dU:=p.2.1 },0)):=by
 refine⟨fun z w=>call365 z w,?_⟩;intro K w v h;have i:=h_ (pC K w v h);have c:=h_ (zh K w v h);have l:=h_ h;have k:=h_ (cq.refl K.ey w);have f:=l.out.m2;clear h;by_cases a:v.r.depth<2
 . simp only[if_pos a]
   have B:decide (v.r.depth<2)=true:=decide_eq_true a;clear a c;go_enter func365,ntmps365;go_wp2_with fail;refine eD (i.out) ?_;go_wp2_with fail;go_ret;exact⟨rfl,l.out,k.out⟩
 . simp only[if_neg a]
   have B:decide (v.r.depth<2)=false:=decide_eq_false a;clear a;generalize v.jO=q at c |-;obtain⟨g,n,e⟩:=q;simp only;have j:=h_ fun V (C:dZ V K { g with ip:=n })=>zh K V { g with ip:=n } C;generalize VM.jO { g with ip:=n }=q at j |-;obtain⟨J,m,G⟩:=q;go_enter func365,ntmps365;go_wp2_with fail;refine eD (i.out) ?_;go_wp2_with fail;refine nv (c.out) k ?_;intro D b o;try clear f
   have f:=b.out.m2;have A:=b.out.m5;have H:=b.out.er 5;have x:=h_ (b.out.vr n);have s:=h_ (o.out.trans (gW K (cq.setCell D ⟨K.mb,5,none⟩ (I_ n) (fun _=>rfl))));go_wp2_with fail;refine nv (j.out _ x.out) s ?_;intro E d t;try clear f;try clear A
   have F:=d.out.m6;have I:=d.out.er 6;have y:=h_ (d.out.zg m);have u:=h_ (t.out.trans (gW K (cq.setCell E ⟨K.mb,6,none⟩ (I_ m) (fun _=>rfl))));go_wp2_with fail;go_ret;exact⟨rfl,y.out,u.out⟩
theorem gh(V:World)(q i:Nat)(v:Value):cq (fun k=>k=q) V (V.setCell ⟨q,i,none⟩ v):=cq.setCell V ⟨q,i,none⟩ v (fun _=>rfl)
theorem qw(w:World)(q:Nat)(a b c:Value):cq (fun k=>k=q) w (((w.setCell ⟨q,5,none⟩ a).setCell ⟨q,6,none⟩ b).setCell ⟨q,16,none⟩ c):=by
 have d:∀ (V:World) (i:Nat) (v:Value),cq (fun k=>k=q) V (V.setCell ⟨q,i,none⟩ v):=fun V i v=>cq.setCell V ⟨q,i,none⟩ v (fun _=>rfl);exact((d _ 5 a).trans (d _ 6 b)).trans (d _ 16 c)
theorem dZ.Sj{w:World}{K:Bk}{v:VM}(h:dZ w K v)(a b c:Int)(d:0<=c)(e:c<=1048576):dZ (((w.setCell ⟨K.mb,5,none⟩ (I_ a)).setCell ⟨K.mb,6,none⟩ (I_ b)).setCell ⟨K.mb,16,none⟩ (I_ c)) K { v with ip:=a,dU:=b,cC:=c } :=
 ((h.vr a).zg b).vt c d e
theorem VM.xJ(v:VM):jD v.inline.2.1:=Mem.fh _ _
def VM.DV(v:VM):VM × Int :=
 let q:=v.inline
 if q.2.2≠0 then(q.1,q.2.2)else
 let p:=q.1.inline
 if p.2.2≠0 then(p.1,p.2.2)else
 let y:=Class.lookup p.1.x.mem q.2.1 p.2.1
 if y.2.2=false then(p.1,-2049)else p.1.method y.1.xt p.1.dU
theorem VM.Mb(v:VM):v.DV=if v.inline.2.2≠0 then(v.inline.1,v.inline.2.2)else
 if v.inline.1.inline.2.2≠0 then(v.inline.1.inline.1,v.inline.1.inline.2.2)else
 if(Class.lookup v.inline.1.inline.1.x.mem v.inline.2.1 v.inline.1.inline.2.1).2.2=false then(v.inline.1.inline.1,-2049)else
 v.inline.1.inline.1.method (Class.lookup v.inline.1.inline.1.x.mem v.inline.2.1 v.inline.1.inline.2.1).1.xt v.inline.1.inline.1.dU:=rfl
theorem Bl:pD 364 VM.DV:=by
 refine⟨fun U w=>call364 U w,?_⟩;intro K w v h;have u:=h_ (kV K w v h);have a:=VM.Mb v;generalize v.DV=Q at a |-;have E:=v.xJ;generalize v.inline=q at a u E;obtain⟨L,c,e⟩:=q;simp only at a E;have z:=h_ fun V (D:dZ V K L)=>kV K V L D;generalize L.inline=q at a z;obtain⟨s,N,M⟩:=q;simp only at a;have k:=h_ fun V (D:dZ V K s)=>nK V K.b K.bb s.x.mem c N D.vm.sp.mem E.1 E.2;generalize Class.lookup s.x.mem c N=y at a k;obtain⟨⟨r,ex,p⟩,n,W⟩:=y;unfold wD jz.val at k;simp only at a k;have j:=h_ a;have Z:=h_ h;have F:=h_ (cq.refl K.ey w);clear h a E;by_cases H:e=0
 . subst H
   by_cases I:M=0
   . subst I
     cases W with
     | false =>
      have a:=j.out;rw[if_neg (by simp),if_neg (by simp),if_pos rfl]at a;subst a;clear j;go_enter func364,ntmps364;go_wp2_with fail;refine nv (u.out) F ?_;intro t m l
      skip
      go_wp2_with fail;refine nv (z.out t m.out) l ?_;intro J d A
      skip
      have f:=d.out.m0;have g:=d.out.ms;go_wp2_with fail;refine(k.out J d.out).mono ?_;rintro e i ⟨rfl,o⟩;have B:=h_ (d.out.cL (o.trans (dR i (.cells #[I_ r,I_ ex,I_ p] 279))));have G:=h_ ((A.out.trans (lK K o)).trans (cq.alloc K.ey i (.cells #[I_ r,I_ ex,I_ p] 279)));clear o;try clear f;try clear g
      go_wp2_with fail;go_ret;exact⟨rfl,B.out,G.out⟩
     | true =>
      have a:=j.out;rw[if_neg (by simp),if_neg (by simp),if_neg (by simp)]at a;subst a;clear j;have O:=h_ fun V (D:dZ V K s)=>sH K V s ex s.dU D;go_enter func364,ntmps364;go_wp2_with fail;refine nv (u.out) F ?_;intro t m l;try clear f;try clear g
      go_wp2_with fail;refine nv (z.out t m.out) l ?_;intro J d A;try clear f;try clear g
      have f:=d.out.m0;have g:=d.out.ms;go_wp2_with fail;refine(k.out J d.out).mono ?_;rintro e i ⟨rfl,o⟩;have B:=h_ (d.out.cL (o.trans (dR i (.cells #[I_ r,I_ ex,I_ p] 279))));have G:=h_ ((A.out.trans (lK K o)).trans (cq.alloc K.ey i (.cells #[I_ r,I_ ex,I_ p] 279)));clear o;try clear f;try clear g
      have X:(i.alloc (.cells #[I_ r,I_ ex,I_ p] 279)).cell? ⟨i.heap.size,1,none⟩=some (I_ ex):=cp (cx i _) rfl;have C:=B.out.m6;go_wp2_with fail;generalize i.alloc (.cells #[I_ r,I_ ex,I_ p] 279)=Y at B G X C |-;go_still_tail 7,(by kernel_rfl);change wpList _ _ _ _ _ Y.drew;have S:=h_ (B.out.cL (cq.drew _ _));have P:=h_ (G.out.trans (cq.drew _ _));go_wp2_with fail;refine nv (O.out _ S.out) P ?_;intro w5 T R;try clear f;try clear C;try clear g
      go_wp2_with fail;go_ret;exact⟨rfl,T.out,R.out⟩
   . have d2:(M != 0)=true:=by simp[I]
     have a:=j.out;rw[if_neg (by simp),if_pos I]at a;subst a;clear j I k;go_enter func364,ntmps364;go_wp2_with fail;refine nv (u.out) F ?_;intro t m l;try clear f;try clear C;try clear g
     go_wp2_with fail;refine nv (z.out t m.out) l ?_;intro J d A;try clear f;try clear C;try clear g
     go_wp2_with fail;go_ret;exact⟨rfl,d.out,A.out⟩
 . have d1:(e != 0)=true:=by simp[H]
   have a:=j.out;rw[if_pos H]at a;subst a;clear j H k z;go_enter func364,ntmps364;go_wp2_with fail;refine nv (u.out) F ?_;intro t m l;try clear f;try clear C;try clear g
   go_wp2_with fail;go_ret;exact⟨rfl,m.out,l.out⟩
theorem DW(n:Int)(a:1<=n)(b:n<=86):num (fc n)=n:=by
 have:∀ i:Fin 86,num (fc ((i.1:Int)+1))=(i.1:Int)+1:=by decide +kernel
 have h:=this ⟨(n-1).toNat,by omega⟩;simp only at h;rw[show(((n-1).toNat:Nat):Int)+1=n by omega]at h;exact h
theorem qx(s:List UInt8)(h:s ∈ names):fc (num s)=s:=by
 obtain⟨a,b⟩:=sy s names h;have d:=fZ;have c:num s=(ft s names:Int)+1:=by unfold num yJ;rw[if_pos a]
 unfold fc;rw[c,if_pos (by omega),show((ft s names:Int)+1-1).toNat=ft s names by omega,List.getD_eq_getElem?_getD,List.getElem?_eq_getElem a];exact b
theorem xK:ky []=none:=by
 cases h:ky [] with
 | none=>rfl
 | some k=>exact absurd (tX [] (by rw[h];simp)) (by decide +kernel)
def Found(X:Nat->Prop)(w:World)(r:Option Value)(k:Option Pk):Prop:=match k with
 | none=>r=none
 | some kd=>∃ v,r=some v/\Good X w kd v
theorem Pz{X:Nat->Prop}{w:World}{f:Nat}(h:Does X w f)(c:Int):∃ n g r,n<=500/\cX ik w f n g/\g c=r/\Found X w r (ky (fc c)):=by
 obtain⟨n,g,o,m,j,k⟩:=h;refine⟨n,g,g c,o,m,rfl,?_⟩;unfold Found;cases a:ky (fc c)with
 | some q =>
  obtain⟨v,e,i⟩:=j _ q a;have p:fc c≠[]:=fun e=>by rw[e,xK]at a;cases a
  have d:1<=c/\c<=86:=by
   rcases Decidable.em (1<=c/\c<=86)with h | h
   . exact h
   . exact absurd (by unfold fc;rw[if_neg h]) p
  rw[DW c d.1 d.2]at e;exact⟨v,e,i⟩
 | none =>
  refine k c fun s b e=>?_;have l:=tX s (by intro h;rw[h]at b;cases b);rw[<- e,qx s l]at a;rw[a]at b;cases b
def Sk(K:Bk)(w:World)(q:VM × Int)(u:Value):Prop :=
 (∃ f,u=.func (.func f) #[] #[]/\Enters f/\Calls Tryz.prog f #[cD K.mb] w (PV K w q)) \/
 (∃ f a,u=.func (.func f) #[] #[a]/\Enters f/\Calls Tryz.prog f #[cD K.mb,a] w (PV K w q)) \/
 (∃ f a b,u=.func (.func f) #[] #[a,b]/\Enters f/\Calls Tryz.prog f #[cD K.mb,a,b] w (PV K w q))
theorem mg:Enters 406:=fun a w=>call406 a w
theorem Bm:Enters 405:=fun a w=>call405 a w
theorem Bn:Enters 413:=fun a w=>call413 a w
theorem look_ok(D:Int)(f:Nat)(R:VM->Int->Int × Int)(j:vz f R):L9 D 1 413 (bY f) (VM.nH R) :=
 ⟨Bn,fun K w v i c g L h _ k d a e b=>Pv K w v D f R j i c g L h k d a e b⟩
theorem qy{w:World}{K:Bk}{v:VM}(h:dZ w K v)(xt:Int)(b:(v.cell xt).2=0):0<=xt/\xt<=4194304:=by
 have c:=h.vm.sp.mem.le;unfold VM.cell Mem.cell at b;split at b
 . rename_i a;rw[Mem.dX]at a;omega
 . rename_i a;exact absurd b a
theorem TH(c:Int)(h:jD c):(Lit.int .i64 c).wf=true:=by
 have:=wrap64_wf c
 rwa [IntWalk.wrap64_in c h]at this
def Xn(K:Bk)(w:World)(q:VM × Bool)(e:Ending)(w':World):Prop:=e=.returned (.bool q.2)/\dZ w' K q.1/\cq K.ey w w'
section
variable (K:Bk) (w:World) (v:VM)
theorem rP(e:Int)(h:dZ w K v)(hc:v.cC<4\/e = -2053):Calls Tryz.prog 428 #[cD K.mb,I_ e] w (Xn K w (v,false)):=by
 have Ws:=fun (q:fP w)=>q.2.cell h.m16 id
 have y2:=fun (q:fP w)=>q.2.cell h.m2 id
 have R0:=h_ h;have K0:=h_ (cq.refl K.ey w);clear h;by_cases h1:v.cC<4
 . have d1:decide (v.cC<4)=true:=decide_eq_true h1
   clear h1 hc
   go_enter Tryz.func428,Tryz.ntmps428
   go_wp2_with fail;refine Go.Proofs.K.cW ?iX ?iY ?_
   case iX=>kernel_rfl
   case iY=>kernel_rfl
   repeat ((with_reducible refine wpQuiet_step ?_);intro Kq wg;go_simp;first | ((with_reducible refine wg _ ?_);clear wg Kq) | (refine wg _ ?_;clear wg Kq) | (apply Exists.intro;refine⟨fun _=>?_,wg _ ?_⟩;(fail);clear wg Kq))
   with_reducible refine wpQuiet_nil ?_
   intro w1 hw';obtain⟨⟨wq,kq⟩,hw''⟩:=hw';subst hw'';have R1:=h_ (R0.out.cL kq);have K1:=h_ (lK K kq);go_wp2_with fail;go_ret
   exact⟨rfl,R1.out,K1.out⟩
 . have d1:decide (v.cC<4)=false:=decide_eq_false h1
   have d2:e = -2053:=hc.elim (fun h=>absurd h h1) id
   subst d2;clear h1 hc
   go_enter Tryz.func428,Tryz.ntmps428
   go_wp2_with fail;refine Go.Proofs.K.cW ?nM ?nO ?_
   case nM=>kernel_rfl
   case nO=>kernel_rfl
   repeat ((with_reducible refine wpQuiet_step ?_);intro Kq wg;go_simp;first | ((with_reducible refine wg _ ?_);clear wg Kq) | (refine wg _ ?_;clear wg Kq) | (apply Exists.intro;refine⟨fun _=>?_,wg _ ?_⟩;(fail);clear wg Kq))
   with_reducible refine wpQuiet_nil ?_
   intro w1 hw';obtain⟨⟨wq,kq⟩,hw''⟩:=hw';subst hw'';have R1:=h_ (R0.out.cL kq);have K1:=h_ (lK K kq);go_wp2_with fail;go_ret
   exact⟨rfl,R1.out,K1.out⟩
end
def PA(e:Int)(f:Int):Nat:=2*f.toNat+(if e=0 then 1 else 0)
section
variable (K:Bk) (w:World) (v:VM)
end
end Go.Proofs.dS
