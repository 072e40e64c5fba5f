/- A part of EarlyG. No condition. -/
import Derived.Test.YthhfkhhhclmimaaGreatDoorM34
import Derived.Test.YthhfkhhhclmimaaGreatDoorM20
set_option linter.unusedVariables false
set_option linter.unusedSimpArgs false
open Go.Proofs.Tryz
set_option maxRecDepth 10000
set_option maxHeartbeats 4000000
namespace Go.Proofs.dS
open Go Go.RowKit Go.Proofs.K Go.Proofs.tI
section
variable (K:Bk) (w:World) (v:VM)
end
section
variable (K:Bk) (w:World) (v:VM)
theorem Pv(D:Int)(f:Nat)(R:VM->Int->Int × Int)(z:vz f R)(y c g:Nat)(L:List Int)(h:dZ w K v)(xg:K.X g)(F:w.cell? ⟨g,0,none⟩=some (hE f))(s:oA w y L)(G:L.length=1)(E:∀ x ∈ L,jD x) :
 Calls prog 413 #[cD K.mb,.slice (some ⟨y,0,none⟩) 1 c,cD g] w (PV K w (VM.nH R v L)):=by
 obtain⟨x,rfl⟩:∃ x,L=[x]:=List.length_eq_one_iff.1 G;have aa:∀ (C:Array Value) (w:World),(callFunc f C).run prog w=.ok (.enter f C) w:=z.L8;have T:C_ w y 0=some (I_ x):=s.cell (i:=0) (by simp);have S:jD x:=E x (by simp);have W:=h_ (s.nf h);have k:=h_ fun (q:fP w)=>z.ok K q.1 v x (h.cL q.2) S;have b:VM.nH R v [x]=if(R v x).2≠0 then(v,(R v x).2)else v.push [(R v x).1]:=rfl;generalize VM.nH R v [x]=Q at b |-;generalize R v x=r at b k;obtain⟨n,e⟩:=r;simp only at b k;have l:=h_ b;have A:=fun (q:fP w)=>q.2.cell F id;have I:=fun (q:fP w)=>q.2.cell T id;unfold hE at A F;have B:=h_ h;have Y:=h_ (cq.refl K.ey w);clear h b s G E z;by_cases o:e=0
 . subst o
   have b:=l.out;rw[if_neg (by simp)]at b;subst b;clear l;have J:=h_ fun V (P:dZ V K v)=>jh K V v n 2 P;go_enter func413,ntmps413;go_wp2_with fail;refine Go.Proofs.K.cW ?vb ?vc ?_;case vb=>kernel_rfl
   case vc=>kernel_rfl
   repeat ((with_reducible refine wpQuiet_step ?_);intro d a;go_simp;first | ((with_reducible refine a _ ?_);clear a d) | (refine a _ ?_;clear a d) | (apply Exists.intro;refine⟨fun _=>?_,a _ ?_⟩;(first | exact Go.Proofs.K.gO (k.out _));clear a d))
   with_reducible refine wpQuiet_nil ?_
   intro H t;obtain⟨⟨U,j⟩,u⟩:=t;subst u;have m:=h_ (B.out.cL j);have p:=h_ (lK K j);clear A I j k;have O:=m.out.m1;go_wp2_with fail;refine nv (J.out H m.out) p ?_;intro w2 N M;try clear O
   go_wp2_with fail;go_ret;exact⟨rfl,N.out,M.out⟩
 . have Z:(e != 0)=true:=by simp[o]
   have b:=l.out;rw[if_pos o]at b;subst b;clear l o;go_enter func413,ntmps413;go_wp2_with fail;refine Go.Proofs.K.cW ?Dc ?Dd ?_;case Dc=>kernel_rfl
   case Dd=>kernel_rfl
   repeat ((with_reducible refine wpQuiet_step ?_);intro d a;go_simp;first | ((with_reducible refine a _ ?_);clear a d) | (refine a _ ?_;clear a d) | (apply Exists.intro;refine⟨fun _=>?_,a _ ?_⟩;(first | exact Go.Proofs.K.gO (k.out _));clear a d))
   with_reducible refine wpQuiet_nil ?_
   intro H t;obtain⟨⟨U,j⟩,u⟩:=t;subst u;have m:=h_ (B.out.cL j);have p:=h_ (lK K j);clear A I j k;go_wp2_with fail;go_ret;exact⟨rfl,m.out,p.out⟩
end
theorem Sh(D:Int):DR D 1 346 (VM.jk fun v n=>v.oU (dE.gC n v.oj)):=by
 refine⟨fun E w=>call346 E w,?_⟩;intro K w v g c L h F b a p;obtain⟨x,rfl⟩:∃ x,L=[x]:=List.length_eq_one_iff.1 a;have G:C_ w g 0=some (I_ x):=b.cell (i:=0) (by simp);have r:jD x:=p x (by simp);have z:=h_ (b.nf h);have J:=h_ b;clear b a p;have B:=h_ h;have M:=h_ (cq.refl K.ey w);unfold VM.jk;simp only[List.getD_cons_zero];have l:=h_ (FE K w.drew v (h.cL (cq.drew _ _)));generalize v.oj=j at l |-;have m:=h_ fun V=>zc V x j r.1 r.2;have a:=LS x j;generalize dE.gC x j=t at m a |-;have o:=h_ fun V (R:dZ V K v)=>L4 K V v t R (by omega);generalize v.oU t=q at o |-;clear h F a;go_enter func346,ntmps346;go_wp2_with fail
 go_region_held3 (fun w'=>C_ w' g 0=some (I_ x))
  (first | go_keep | exact k.cell I z.out)
  (first
    | (go_at_call 140;refine l.out.mono ?_;rintro e u ⟨rfl,d⟩;dsimp only
       have H:C_ u g 0=some (I_ x):=d.cell G id)
    | (go_at_call 39;refine(m.out u).mono ?_;rintro e y ⟨rfl,f⟩;dsimp only
       have I:C_ y g 0=some (I_ x):=f.cell H id)
    | (go_at_call 347;refine(o.out y ((B.out.cL ((fw w).trans d)).cL f)).mono ?_;rintro e N ⟨rfl,s,k⟩;dsimp only))
 have C:=h_ s;have A:=h_ ((lK K (((cq.drew _ w).trans d).trans f)).trans k);clear s k f d;go_wp2_with fail;go_ret;exact⟨rfl,C.out,A.out⟩
section
variable (K:Bk) (w:World) (v:VM)
theorem VM.Pw(a b:Int):v.send a b=if(Obj.send v.x.mem v.root a b).2.2≠0 then(v,(Obj.send v.x.mem v.root a b).2.2)else v.method (Obj.send v.x.mem v.root a b).1 a:=rfl
theorem Px(a j:Int)(h:dZ w K v):Calls prog 361 #[cD K.mb,I_ a,I_ j] w (PV K w (v.send a j)):=by
 have d:=VM.Pw v a j;generalize v.send a j=Q at d |-;have i:=h_ fun (q:fP w)=>Ln q.1 K.b K.bb v.x.mem v.root a j (h.cL q.2).vm.sp.mem;generalize Obj.send v.x.mem v.root a j=r at d i;obtain⟨xt,n,e⟩:=r;simp only at d i;have t:=h_ fun V (E:dZ V K v)=>sH K V v xt a E;have k:=h_ d;have z:=fun (q:fP w)=>q.2.cell h.m0 id;have A:=fun (q:fP w)=>q.2.cell h.m7 id;have B:=fun (q:fP w)=>q.2.cell h.ms id;have u:=h_ h;have G:=h_ (cq.refl K.ey w);clear h d;by_cases l:e=0
 . subst l
   have d:=k.out;rw[if_neg (by simp)]at d;subst d;clear k;go_enter func361,ntmps361;go_wp2_with fail;refine Go.Proofs.K.cW ?iX ?iY ?_;case iX=>kernel_rfl
   case iY=>kernel_rfl
   repeat ((with_reducible refine wpQuiet_step ?_);intro f c;go_simp;first | ((with_reducible refine c _ ?_);clear c f) | (refine c _ ?_;clear c f) | (apply Exists.intro;refine⟨fun _=>?_,c _ ?_⟩;(first | exact Go.Proofs.K.gO (i.out _));clear c f))
   with_reducible refine wpQuiet_nil ?_
   intro y p;obtain⟨⟨F,g⟩,s⟩:=p;subst s;have o:=h_ (u.out.cL g);have m:=h_ (lK K g);clear z A B g i;go_wp2_with fail;refine nv (t.out y o.out) m ?_;intro I D C
   skip
   go_wp2_with fail;go_ret;exact⟨rfl,D.out,C.out⟩
 . have H:(e != 0)=true:=by simp[l]
   have d:=k.out;rw[if_pos l]at d;subst d;clear k l t;go_enter func361,ntmps361;go_wp2_with fail;refine Go.Proofs.K.cW ?nM ?nO ?_;case nM=>kernel_rfl
   case nO=>kernel_rfl
   repeat ((with_reducible refine wpQuiet_step ?_);intro f c;go_simp;first | ((with_reducible refine c _ ?_);clear c f) | (refine c _ ?_;clear c f) | (apply Exists.intro;refine⟨fun _=>?_,c _ ?_⟩;(first | exact Go.Proofs.K.gO (i.out _));clear c f))
   with_reducible refine wpQuiet_nil ?_
   intro y p;obtain⟨⟨F,g⟩,s⟩:=p;subst s;have o:=h_ (u.out.cL g);have m:=h_ (lK K g);clear z A B g i;go_wp2_with fail;go_ret;exact⟨rfl,o.out,m.out⟩
end
theorem Py(D:Int):DR D 1 360 (VM.jk fun v a=>let q:=v.inline;if q.2.2≠0 then(q.1,q.2.2)else q.1.send a q.2.1):=by
 refine⟨fun y w=>call360 y w,?_⟩;intro K w v B c L h A f p o;obtain⟨x,rfl⟩:∃ x,L=[x]:=List.length_eq_one_iff.1 p;have C:C_ w B 0=some (I_ x):=f.cell (i:=0) (by simp);have H:jD x:=o x (by simp);have s:=h_ (f.nf h);have E:=h_ f;clear f p o;have F:=h_ h;have m:=h_ (cq.refl K.ey w);have g:=h_ (kV K w v h);clear h A;unfold VM.jk;simp only[List.getD_cons_zero];generalize v.inline=q at g |-;obtain⟨k,n,e⟩:=q;simp only;by_cases d:e=0
 . subst d
   rw[if_neg (by simp)];have l:=h_ fun V (z:dZ V K k)=>Px K V k x n z;generalize k.send x n=q at l |-;go_enter func360,ntmps360;go_wp2_with fail;refine nv (g.out) m ?_;intro r j b
   skip
   have I:=b.out.cell C s.out;go_wp2_with fail;refine nv (l.out r j.out) b ?_;intro J u t
   skip
   go_wp2_with fail;go_ret;exact⟨rfl,u.out,t.out⟩
 . rw[if_pos d]
   have G:(e != 0)=true:=by simp[d]
   clear d;go_enter func360,ntmps360;go_wp2_with fail;refine nv (g.out) m ?_;intro r j b
   skip
   go_wp2_with fail;go_ret;exact⟨rfl,j.out,b.out⟩
theorem Ig(D:Int):DR D 1 362 (VM.jk fun v a=>let q:=v.inline;if q.2.2≠0 then(q.1,q.2.2)else q.1.method q.2.1 a):=by
 refine⟨fun y w=>call362 y w,?_⟩;intro K w v B c L h A f p o;obtain⟨x,rfl⟩:∃ x,L=[x]:=List.length_eq_one_iff.1 p;have C:C_ w B 0=some (I_ x):=f.cell (i:=0) (by simp);have H:jD x:=o x (by simp);have s:=h_ (f.nf h);have E:=h_ f;clear f p o;have F:=h_ h;have m:=h_ (cq.refl K.ey w);have g:=h_ (kV K w v h);clear h A;unfold VM.jk;simp only[List.getD_cons_zero];generalize v.inline=q at g |-;obtain⟨k,n,e⟩:=q;simp only;by_cases d:e=0
 . subst d
   rw[if_neg (by simp)];have l:=h_ fun V (z:dZ V K k)=>sH K V k n x z;generalize k.method n x=q at l |-;go_enter func362,ntmps362;go_wp2_with fail;refine nv (g.out) m ?_;intro r j b
   skip
   have I:=b.out.cell C s.out;go_wp2_with fail;refine nv (l.out r j.out) b ?_;intro J u t
   skip
   go_wp2_with fail;go_ret;exact⟨rfl,u.out,t.out⟩
 . rw[if_pos d]
   have G:(e != 0)=true:=by simp[d]
   clear d;go_enter func362,ntmps362;go_wp2_with fail;refine nv (g.out) m ?_;intro r j b
   skip
   go_wp2_with fail;go_ret;exact⟨rfl,j.out,b.out⟩
theorem Bj:pD 365 (fun v=>if v.r.depth<2 then(v,-6)else
 let q:=v.jO
 let p:={ q.1 with ip:=q.2.1 }.jO
 ({ p.1 with dU:=p.2.1 },0)):=by
 refine⟨fun z w=>call365 z w,?_⟩;intro K w v h;have i:=h_ (pC K w v h);have c:=h_ (zh K w v h);have l:=h_ h;have k:=h_ (cq.refl K.ey w);have f:=l.out.m2;clear h;by_cases a:v.r.depth<2
 . simp only[if_pos a]
   have B:decide (v.r.depth<2)=true:=decide_eq_true a;clear a c;go_enter func365,ntmps365;go_wp2_with fail;refine eD (i.out) ?_;go_wp2_with fail;go_ret;exact⟨rfl,l.out,k.out⟩
 . simp only[if_neg a]
   have B:decide (v.r.depth<2)=false:=decide_eq_false a;clear a;generalize v.jO=q at c |-;obtain⟨g,n,e⟩:=q;simp only;have j:=h_ fun V (C:dZ V K { g with ip:=n })=>zh K V { g with ip:=n } C;generalize VM.jO { g with ip:=n }=q at j |-;obtain⟨J,m,G⟩:=q;go_enter func365,ntmps365;go_wp2_with fail;refine eD (i.out) ?_;go_wp2_with fail;refine nv (c.out) k ?_;intro D b o;try clear f
   have f:=b.out.m2;have A:=b.out.m5;have H:=b.out.er 5;have x:=h_ (b.out.vr n);have s:=h_ (o.out.trans (gW K (cq.setCell D ⟨K.mb,5,none⟩ (I_ n) (fun _=>rfl))));go_wp2_with fail;refine nv (j.out _ x.out) s ?_;intro E d t;try clear f;try clear A
   have F:=d.out.m6;have I:=d.out.er 6;have y:=h_ (d.out.zg m);have u:=h_ (t.out.trans (gW K (cq.setCell E ⟨K.mb,6,none⟩ (I_ m) (fun _=>rfl))));go_wp2_with fail;go_ret;exact⟨rfl,y.out,u.out⟩
theorem wN(m:Mem)(b a c:Int):(Obj.heap m b a c).1.size=m.size:=by
 unfold Obj.heap;split
 . rfl
 . split
   . exact qm _ _ _ _
   . rw[jX];exact qm _ _ _ _
theorem Si(ab:Int):DR ab 1 356 (VM.jk VM.Hm):=by
 refine⟨fun ad w=>call356 ad w,?_⟩;intro K w v Q c L h hd P hl hb;obtain⟨x,rfl⟩:∃ x,L=[x]:=List.length_eq_one_iff.1 hl;have F:C_ w Q 0=some (I_ x):=P.cell (i:=0) (by simp);have hx:jD x:=hb x (by simp);have ac:=h_ (P.nf h);have af:=h_ P;clear P hl hb;have S:=h_ h;have K0:=h_ (cq.refl K.ey w);have U:=fun (q:fP w)=>q.2.cell h.m0 id;have W:=fun (q:fP w)=>q.2.cell h.m7 id;have Y:=fun (q:fP w)=>q.2.cell h.ms id;have X:=fun (q:fP w)=>q.2.cell F id
 have f:VM.jk VM.Hm v [x]=if Class.is v.x.mem v.root x=false then(v,-2048)else
  if(Obj.heap v.x.mem v.tc v.tf x).2.2≠0 then(v.mem (Obj.heap v.x.mem v.tc v.tf x).1,(Obj.heap v.x.mem v.tc v.tf x).2.2)else(v.mem (Obj.heap v.x.mem v.tc v.tf x).1).push [(Obj.heap v.x.mem v.tc v.tf x).2.1]:=rfl
 generalize VM.jk VM.Hm v [x]=ag at f |-;have o:=h_ fun (q:fP w)=>qX q.1 K.b K.bb v.x.mem v.root x (h.cL q.2).vm.sp.mem;generalize Class.is v.x.mem v.root x=ae at f o;have t:=h_ fun V (aa:dZ V K v)=>(Lo V K.hb K.b K.bb v.x.mem v.tc v.tf x aa.Xd hx.1 hx.2).mono fun e w' (h:sx _ _ _ _ _ _ V e w')=>(⟨h.1,aa.dI h.2.2 h.2.1.mem (wN _ _ _ _),h.2.2⟩:e=.returned (.tuple #[I_ (Obj.heap v.x.mem v.tc v.tf x).2.1,I_ (Obj.heap v.x.mem v.tc v.tf x).2.2])/\dZ w' K (v.mem (Obj.heap v.x.mem v.tc v.tf x).1)/\cq (fun g=>g=K.bb) V w');generalize Obj.heap v.x.mem v.tc v.tf x=r at f t;obtain⟨m,a,e⟩:=r;simp only at f t;generalize v.mem m=v1 at f t;have p:=h_ (Ma K w v h);have Z:=h_ (show Q≠K.bb from fun e=>ac.out (.inr (.inr (.inl e))));have u:=h_ f;clear h hd f;cases ae with
 | false =>
  have f:=u.out;rw[if_pos rfl]at f;subst f;clear u t;go_enter func356,ntmps356;go_wp2_with fail;refine Go.Proofs.K.cW ?De ?Df ?_;case De=>kernel_rfl
  case Df=>kernel_rfl
  repeat ((with_reducible refine wpQuiet_step ?_);intro l d;go_simp;first | ((with_reducible refine d _ ?_);clear d l) | (refine d _ ?_;clear d l) | (apply Exists.intro;refine⟨fun _=>?_,d _ ?_⟩;(first | exact Go.Proofs.K.gO (o.out _));clear d l))
  with_reducible refine wpQuiet_nil ?_
  intro B D;obtain⟨⟨wq,k⟩,E⟩:=D;subst E;have n:=h_ (S.out.cL k);have C:=h_ (lK K k);clear U W Y X k o;go_wp2_with fail;go_ret;exact⟨rfl,n.out,C.out⟩
 | true =>
  by_cases O:e=0
  . subst O
    have f:=u.out;rw[if_neg (by simp),if_neg (by simp)]at f;subst f;clear u;have HP:=h_ fun V (hV:dZ V K v1)=>jh K V v1 a 2 hV;go_enter func356,ntmps356;go_wp2_with fail;refine Go.Proofs.K.cW ?Dg ?Dh ?_;case Dg=>kernel_rfl
    case Dh=>kernel_rfl
    repeat ((with_reducible refine wpQuiet_step ?_);intro l d;go_simp;first | ((with_reducible refine d _ ?_);clear d l) | (refine d _ ?_;clear d l) | (apply Exists.intro;refine⟨fun _=>?_,d _ ?_⟩;(first | exact Go.Proofs.K.gO (o.out _));clear d l))
    with_reducible refine wpQuiet_nil ?_
    intro B D;obtain⟨⟨wq,k⟩,E⟩:=D;subst E;have n:=h_ (S.out.cL k);have C:=h_ (lK K k);have T:=k.cell F id;clear U W Y X k o F;have y:=n.out.m0;have z:=n.out.m3;have A:=n.out.ms;go_wp2_with fail
    go_region_held3 (fun w'=>C_ w' K.mb 0=some (cD K.s)/\C_ w' K.mb 3=some (cD K.hb)/\C_ w' K.s 0=some (cD K.b)/\C_ w' Q 0=some (I_ x))
     (first | go_keep | exact⟨H,I,M,J⟩)
     (first | (go_at_call 357;refine(t.out B.drew (n.out.cL (cq.drew _ _))).mono ?_;rintro e w2 ⟨rfl,G,j⟩;dsimp only;have H:=j.cell y p.out.1;have I:=j.cell z p.out.1;have M:=j.cell A p.out.2.1;have J:=j.cell T Z.out))
    have N:=h_ G;have R:=h_ ((C.out.trans (cq.drew K.ey B)).trans (mf K j));clear H I M J G j;try clear y;try clear z;try clear A
    have c1:=N.out.m1;go_wp2_with fail;refine nv (HP.out w2 N.out) R ?_;intro w3 R3 K3;try clear y;try clear c1;try clear z;try clear A
    go_wp2_with fail;go_ret;exact⟨rfl,R3.out,K3.out⟩
  . have d1:(e != 0)=true:=by simp[O]
    have f:=u.out;rw[if_neg (by simp),if_pos O]at f;subst f;clear u O;go_enter func356,ntmps356;go_wp2_with fail;refine Go.Proofs.K.cW ?Di ?Dj ?_;case Di=>kernel_rfl
    case Dj=>kernel_rfl
    repeat ((with_reducible refine wpQuiet_step ?_);intro l d;go_simp;first | ((with_reducible refine d _ ?_);clear d l) | (refine d _ ?_;clear d l) | (apply Exists.intro;refine⟨fun _=>?_,d _ ?_⟩;(first | exact Go.Proofs.K.gO (o.out _));clear d l))
    with_reducible refine wpQuiet_nil ?_
    intro B D;obtain⟨⟨wq,k⟩,E⟩:=D;subst E;have n:=h_ (S.out.cL k);have C:=h_ (lK K k);have T:=k.cell F id;clear U W Y X k o F;have y:=n.out.m0;have z:=n.out.m3;have A:=n.out.ms;go_wp2_with fail
    go_region_held3 (fun w'=>C_ w' K.mb 0=some (cD K.s)/\C_ w' K.mb 3=some (cD K.hb)/\C_ w' K.s 0=some (cD K.b)/\C_ w' Q 0=some (I_ x))
     (first | go_keep | exact⟨H,I,M,J⟩)
     (first | (go_at_call 357;refine(t.out B.drew (n.out.cL (cq.drew _ _))).mono ?_;rintro e w2 ⟨rfl,G,j⟩;dsimp only;have H:=j.cell y p.out.1;have I:=j.cell z p.out.1;have M:=j.cell A p.out.2.1;have J:=j.cell T Z.out))
    have N:=h_ G;have R:=h_ ((C.out.trans (cq.drew K.ey B)).trans (mf K j));clear H I M J G j;try clear y;try clear c1;try clear z;try clear A
    go_wp2_with fail;go_ret;exact⟨rfl,N.out,R.out⟩
theorem vC(w:World)(n:Int):Calls prog 352 #[I_ n] w fun e w'=>e=.returned (I_ (VM.eX n))/\w=w':=by
 unfold VM.eX;by_cases a:n<0
 . rw[if_pos (.inl a)]
   have c:decide (n<0)=true:=decide_eq_true a;go_enter func352,ntmps352;go_wp2;go_ret;exact⟨rfl,rfl⟩
 . have c:decide (n<0)=false:=decide_eq_false a
   by_cases b:1048576<n
   . rw[if_pos (.inr b)]
     have d:decide (1048576<n)=true:=decide_eq_true b;go_enter func352,ntmps352;go_wp2;go_ret;exact⟨rfl,rfl⟩
   . rw[if_neg (fun e=>e.elim a b)]
     have d:decide (1048576<n)=false:=decide_eq_false b;go_enter func352,ntmps352;go_wp2;go_ret;exact⟨rfl,rfl⟩
theorem rF(n:Int):0<=VM.eX n/\VM.eX n<=1048576:=by unfold VM.eX;split <;> omega
section
variable (K:Bk) (w:World) (v:VM)
theorem FH(k:Nat)(h:dZ w K v)(q:v.r.depth=k+4):Calls prog 20 #[cD K.rb] w fun e w'=>∃ g c,e=.returned (.slice (some ⟨g,0,none⟩) (k+4) c)/\k+4<=c/\w.heap.size<=g /\
 (w'.cell? ⟨g,k,none⟩=some (I_ ((VM.fo v.x.mem v.r 4).getD 0 0))/\w'.cell? ⟨g,k+1,none⟩=some (I_ ((VM.fo v.x.mem v.r 4).getD 1 0))/\w'.cell? ⟨g,k+2,none⟩=some (I_ ((VM.fo v.x.mem v.r 4).getD 2 0))/\w'.cell? ⟨g,k+3,none⟩=some (I_ ((VM.fo v.x.mem v.r 4).getD 3 0)))/\K_ w w':=by
 refine(Fq w K.rb K.b K.bb v.r v.x.mem h.vm.rk h.vm.sp.mem).mono ?_;rintro e w' ⟨a,c,rfl,o,p⟩;have n:(dK.all v.x.mem v.r).length=k+4:=by unfold dK.all;simp;omega
 have m:∀ i,i<4->(dK.all v.x.mem v.r)[k+i]?=some ((VM.fo v.x.mem v.r 4).getD i 0):=by
  intro i f;unfold dK.all VM.fo;have j:(List.range v.r.depth.toNat)[k+i]?=some (k+i):=List.getElem?_range (by omega);have l:(List.range 4)[i]?=some i:=List.getElem?_range f;rw[List.getElem?_map,j,List.getD_eq_getElem?_getD,List.getElem?_map,l];simp only[Option.map_some,Option.getD_some];congr 3;omega
 rw[n];rcases o.1.jK with⟨_,t,_⟩ | ⟨g,cur,rfl,s,u,_⟩
 . omega
 . have d:∀ i,i<4->C_ w' g (k+i)=some (I_ ((VM.fo v.x.mem v.r 4).getD i 0)):=fun i f=>o.1.cell (by
    unfold tK;rw[List.getElem?_map,m i f]
    rfl)
   exact⟨g,c,rfl,by omega,o.2 g rfl,⟨d 0 (by omega),d 1 (by omega),d 2 (by omega),d 3 (by omega)⟩,p⟩
end
theorem gh(V:World)(q i:Nat)(v:Value):cq (fun k=>k=q) V (V.setCell ⟨q,i,none⟩ v):=cq.setCell V ⟨q,i,none⟩ v (fun _=>rfl)
theorem qw(w:World)(q:Nat)(a b c:Value):cq (fun k=>k=q) w (((w.setCell ⟨q,5,none⟩ a).setCell ⟨q,6,none⟩ b).setCell ⟨q,16,none⟩ c):=by
 have d:∀ (V:World) (i:Nat) (v:Value),cq (fun k=>k=q) V (V.setCell ⟨q,i,none⟩ v):=fun V i v=>cq.setCell V ⟨q,i,none⟩ v (fun _=>rfl);exact((d _ 5 a).trans (d _ 6 b)).trans (d _ 16 c)
theorem dZ.Sj{w:World}{K:Bk}{v:VM}(h:dZ w K v)(a b c:Int)(d:0<=c)(e:c<=1048576):dZ (((w.setCell ⟨K.mb,5,none⟩ (I_ a)).setCell ⟨K.mb,6,none⟩ (I_ b)).setCell ⟨K.mb,16,none⟩ (I_ c)) K { v with ip:=a,dU:=b,cC:=c } :=
 ((h.vr a).zg b).vt c d e
theorem VM.Ih(v:VM):v.me=if v.r.depth<4 then(v,-6)else
 VM.push { (v.dw (v.r.depth-4)).1 with ip:=(VM.fo v.x.mem v.r 4).getD 0 0,dU:=(VM.fo v.x.mem v.r 4).getD 1 0,cC:=VM.eX ((VM.fo v.x.mem v.r 4).getD 3 0) } [0]:=rfl
theorem zk:pD 351 VM.me:=by
 refine⟨fun ac w=>call351 ac w,?_⟩;intro K w v h;have H:=h_ (pC K w v h);have i:=VM.Ih v;generalize v.me=ao at i |-;by_cases n:v.r.depth<4
 . rw[if_pos n]at i
   subst i;have d1:decide (v.r.depth<4)=true:=decide_eq_true n;have t:=h_ h;have T:=h_ (cq.refl K.ey w);have p:=t.out.m2;clear h n;go_enter func351,ntmps351;go_wp2_with fail;refine eD (H.out) ?_;go_wp2_with fail;go_ret;exact⟨rfl,t.out,T.out⟩
 . rw[if_neg n]at i
   have d1:decide (v.r.depth<4)=false:=decide_eq_false n;obtain⟨o1,o2,o3,o4,o5,o6,o7⟩:=h.vm.rk.ok;obtain⟨k,O⟩:∃ k:Nat,v.r.depth=(k:Int)+4:=⟨(v.r.depth-4).toNat,by omega⟩;have s:=h_ (FH K w v k h O);have Q:=h_ (fun V (B:dZ V K v)=>pC K V v B);have u:=h_ (fun V (B:dZ V K v)=>(oW V K.rb K.b v.r (v.r.depth-4) B.vm.rk).mono fun e w' (⟨he,hd,k⟩:e=_/\Yq w' K.rb K.b _/\cq (fun k=>k=K.rb) V w')=>(show SZ K V (v.dw (v.r.depth-4)) e w' from⟨he,B.FA k hd (iO _ _),k.mono (fun _ _ e=>.inl e)⟩));generalize v.dw (v.r.depth-4)=q at u i;rw[O]at H Q u d1;have aa:(k:Int)+4-4=k:=by omega
   rw[aa]at u;generalize (VM.fo v.x.mem v.r 4).getD 0 0=a at s i;generalize (VM.fo v.x.mem v.r 4).getD 1 0=f at s i;generalize (VM.fo v.x.mem v.r 4).getD 2 0=l2 at s;generalize (VM.fo v.x.mem v.r 4).getD 3 0=o at s i;obtain⟨v1,e1⟩:=q;simp only at i;have R:=h_ fun V=>vC V o;have N:=rF o;generalize VM.eX o=l at R i N;have ap:k<=1048576:=by omega
   have HN:=h_ (Bh K w v h);have an:=h_ h.sV.1;have ab:=h_ h.sV;have t:=h_ h;have T:=h_ (cq.refl K.ey w);have p:=t.out.m2;clear h n O o1 o2 o3 o4 o5 o6 o7;have S:=h_ i;clear i;have aq:IntKind.i64.wrap ((k:Int)+4-4)=k:=by rw[aa];exact IntWalk.i64_in _ (by omega)
   have ar:IntKind.i64.wrap (k:Int)=k:=IntWalk.i64_in _ (by omega);go_enter func351,ntmps351;go_wp2_with fail;refine eD (H.out) ?_;go_wp2_with fail;refine s.out.mono ?_;rintro e D ⟨g,c,rfl,n,hg,⟨z0,z1,z2,z3⟩,P⟩;have L:=h_ (t.out.cL P);have K1:=h_ (lK K P);have ng:¬ K.ey g:=fun e=>by
    have:=ab.out;unfold Bk.ey at e;omega
   have A:=h_ ng;clear P ng p;have HC:=h_ n;have HG:=h_ hg;clear hg;have p:=L.out.m2;go_wp2_with fail
   go_region_held3 (fun w'=>C_ w' K.mb 2=some (cD K.rb))
    (first | go_keep | exact t2)
    (first
      | (go_at_call 18;refine(Q.out D.drew (L.out.cL (cq.drew _ _))).mono ?_;rintro e d ⟨rfl,rfl⟩;dsimp only)
      | (go_at_call 53;refine(u.out D.drew (L.out.cL (cq.drew _ _))).mono ?_;rintro e d ⟨rfl,r2,C⟩;dsimp only;have t2:=C.cell p HN.out))
   have m:=h_ r2;have z:=h_ ((cq.drew K.ey D).trans (lJ K C));have U:=h_ ((K1.out.trans (cq.drew K.ey D)).trans (lJ K C));clear t2 r2 C p;have b0:=m.out.sV.1;have x0:=U.out;have E:C_ d g k=some (I_ a):=(z.out).cell z0 A.out;have F:C_ d g (k+1)=some (I_ f):=(z.out).cell z1 A.out;have G:C_ d g (k+3)=some (I_ o):=(z.out).cell z3 A.out;clear z0 z1 z2 z3 b0 x0 z;have HT:=h_ (m.out.Sj a f l N.1 N.2);have I:=h_ ((gh d K.mb 5 (I_ a)).trans (cq.drew _ _));have J:=h_ (((gh d K.mb 5 (I_ a)).trans (gh _ K.mb 6 (I_ f))).trans (cq.drew _ _));have y:=h_ ((qw d K.mb (I_ a) (I_ f) (I_ l)).trans (cq.drew _ _));have Y:=m.out.m5;have Z:=m.out.m6;have X:=m.out.m16;have f5:=m.out.er 5;have f6:=m.out.er 6;have ad:=m.out.er 16;have j:=h_ (show g≠K.mb from fun e=>A.out (.inl e));have ae:(d.setCell ⟨K.mb,5,none⟩ (I_ a)).drew.cell? ⟨g,k,none⟩=some (I_ a):=I.out.cell E j.out;have af:(d.setCell ⟨K.mb,5,none⟩ (I_ a)).drew.cell? ⟨g,k+1,none⟩=some (I_ f):=I.out.cell F j.out;have ag:(d.setCell ⟨K.mb,5,none⟩ (I_ a)).drew.cell? ⟨g,k+3,none⟩=some (I_ o):=I.out.cell G j.out;have ah:((d.setCell ⟨K.mb,5,none⟩ (I_ a)).setCell ⟨K.mb,6,none⟩ (I_ f)).drew.cell? ⟨g,k,none⟩=some (I_ a):=J.out.cell E j.out;have ai:((d.setCell ⟨K.mb,5,none⟩ (I_ a)).setCell ⟨K.mb,6,none⟩ (I_ f)).drew.cell? ⟨g,k+1,none⟩=some (I_ f):=J.out.cell F j.out;have aj:((d.setCell ⟨K.mb,5,none⟩ (I_ a)).setCell ⟨K.mb,6,none⟩ (I_ f)).drew.cell? ⟨g,k+3,none⟩=some (I_ o):=J.out.cell G j.out;have ak:(((d.setCell ⟨K.mb,5,none⟩ (I_ a)).setCell ⟨K.mb,6,none⟩ (I_ f)).setCell ⟨K.mb,16,none⟩ (I_ l)).drew.cell? ⟨g,k,none⟩=some (I_ a):=y.out.cell E j.out;have al:(((d.setCell ⟨K.mb,5,none⟩ (I_ a)).setCell ⟨K.mb,6,none⟩ (I_ f)).setCell ⟨K.mb,16,none⟩ (I_ l)).drew.cell? ⟨g,k+1,none⟩=some (I_ f):=y.out.cell F j.out;have am:(((d.setCell ⟨K.mb,5,none⟩ (I_ a)).setCell ⟨K.mb,6,none⟩ (I_ f)).setCell ⟨K.mb,16,none⟩ (I_ l)).drew.cell? ⟨g,k+3,none⟩=some (I_ o):=y.out.cell G j.out;go_wp2_with fail
   go_region_held3 (fun w'=>C_ w' g k=some (I_ a)/\C_ w' g (k+1)=some (I_ f)/\C_ w' g (k+3)=some (I_ o))
    (first | go_keep)
    (first | (go_at_call 352;refine(R.out _).mono ?_;rintro e w4 ⟨rfl,rfl⟩;dsimp only))
   clear ae af ag ah ai aj ak al am E F G Y Z X f5 f6 ad;have M:=h_ (HT.out.cL (cq.drew _ _));have W:=h_ (U.out.trans (gW K y.out));generalize (((d.setCell ⟨K.mb,5,none⟩ (I_ a)).setCell ⟨K.mb,6,none⟩ (I_ f)).setCell ⟨K.mb,16,none⟩ (I_ l)).drew=w3 at M W |-;have c1:=M.out.m1;have i:=S.out;subst i;clear S;go_wp2_with fail;refine nv (jh K w3 _ 0 2 M.out) W ?_;intro w4 R4 K4;try clear c1;try clear p;try clear Y;try clear Z;try clear X
   go_wp2_with fail;go_ret;exact⟨rfl,R4.out,K4.out⟩
theorem VM.xJ(v:VM):jD v.inline.2.1:=Mem.fh _ _
def VM.DV(v:VM):VM × Int :=
 let q:=v.inline
 if q.2.2≠0 then(q.1,q.2.2)else
 let p:=q.1.inline
 if p.2.2≠0 then(p.1,p.2.2)else
 let y:=Class.lookup p.1.x.mem q.2.1 p.2.1
 if y.2.2=false then(p.1,-2049)else p.1.method y.1.xt p.1.dU
theorem VM.Mb(v:VM):v.DV=if v.inline.2.2≠0 then(v.inline.1,v.inline.2.2)else
 if v.inline.1.inline.2.2≠0 then(v.inline.1.inline.1,v.inline.1.inline.2.2)else
 if(Class.lookup v.inline.1.inline.1.x.mem v.inline.2.1 v.inline.1.inline.2.1).2.2=false then(v.inline.1.inline.1,-2049)else
 v.inline.1.inline.1.method (Class.lookup v.inline.1.inline.1.x.mem v.inline.2.1 v.inline.1.inline.2.1).1.xt v.inline.1.inline.1.dU:=rfl
theorem Bl:pD 364 VM.DV:=by
 refine⟨fun U w=>call364 U w,?_⟩;intro K w v h;have u:=h_ (kV K w v h);have a:=VM.Mb v;generalize v.DV=Q at a |-;have E:=v.xJ;generalize v.inline=q at a u E;obtain⟨L,c,e⟩:=q;simp only at a E;have z:=h_ fun V (D:dZ V K L)=>kV K V L D;generalize L.inline=q at a z;obtain⟨s,N,M⟩:=q;simp only at a;have k:=h_ fun V (D:dZ V K s)=>nK V K.b K.bb s.x.mem c N D.vm.sp.mem E.1 E.2;generalize Class.lookup s.x.mem c N=y at a k;obtain⟨⟨r,ex,p⟩,n,W⟩:=y;unfold wD jz.val at k;simp only at a k;have j:=h_ a;have Z:=h_ h;have F:=h_ (cq.refl K.ey w);clear h a E;by_cases H:e=0
 . subst H
   by_cases I:M=0
   . subst I
     cases W with
     | false =>
      have a:=j.out;rw[if_neg (by simp),if_neg (by simp),if_pos rfl]at a;subst a;clear j;go_enter func364,ntmps364;go_wp2_with fail;refine nv (u.out) F ?_;intro t m l
      skip
      go_wp2_with fail;refine nv (z.out t m.out) l ?_;intro J d A
      skip
      have f:=d.out.m0;have g:=d.out.ms;go_wp2_with fail;refine(k.out J d.out).mono ?_;rintro e i ⟨rfl,o⟩;have B:=h_ (d.out.cL (o.trans (dR i (.cells #[I_ r,I_ ex,I_ p] 279))));have G:=h_ ((A.out.trans (lK K o)).trans (cq.alloc K.ey i (.cells #[I_ r,I_ ex,I_ p] 279)));clear o;try clear f;try clear g
      go_wp2_with fail;go_ret;exact⟨rfl,B.out,G.out⟩
     | true =>
      have a:=j.out;rw[if_neg (by simp),if_neg (by simp),if_neg (by simp)]at a;subst a;clear j;have O:=h_ fun V (D:dZ V K s)=>sH K V s ex s.dU D;go_enter func364,ntmps364;go_wp2_with fail;refine nv (u.out) F ?_;intro t m l;try clear f;try clear g
      go_wp2_with fail;refine nv (z.out t m.out) l ?_;intro J d A;try clear f;try clear g
      have f:=d.out.m0;have g:=d.out.ms;go_wp2_with fail;refine(k.out J d.out).mono ?_;rintro e i ⟨rfl,o⟩;have B:=h_ (d.out.cL (o.trans (dR i (.cells #[I_ r,I_ ex,I_ p] 279))));have G:=h_ ((A.out.trans (lK K o)).trans (cq.alloc K.ey i (.cells #[I_ r,I_ ex,I_ p] 279)));clear o;try clear f;try clear g
      have X:(i.alloc (.cells #[I_ r,I_ ex,I_ p] 279)).cell? ⟨i.heap.size,1,none⟩=some (I_ ex):=cp (cx i _) rfl;have C:=B.out.m6;go_wp2_with fail;generalize i.alloc (.cells #[I_ r,I_ ex,I_ p] 279)=Y at B G X C |-;go_still_tail 7,(by kernel_rfl);change wpList _ _ _ _ _ Y.drew;have S:=h_ (B.out.cL (cq.drew _ _));have P:=h_ (G.out.trans (cq.drew _ _));go_wp2_with fail;refine nv (O.out _ S.out) P ?_;intro w5 T R;try clear f;try clear C;try clear g
      go_wp2_with fail;go_ret;exact⟨rfl,T.out,R.out⟩
   . have d2:(M != 0)=true:=by simp[I]
     have a:=j.out;rw[if_neg (by simp),if_pos I]at a;subst a;clear j I k;go_enter func364,ntmps364;go_wp2_with fail;refine nv (u.out) F ?_;intro t m l;try clear f;try clear C;try clear g
     go_wp2_with fail;refine nv (z.out t m.out) l ?_;intro J d A;try clear f;try clear C;try clear g
     go_wp2_with fail;go_ret;exact⟨rfl,d.out,A.out⟩
 . have d1:(e != 0)=true:=by simp[H]
   have a:=j.out;rw[if_pos H]at a;subst a;clear j H k z;go_enter func364,ntmps364;go_wp2_with fail;refine nv (u.out) F ?_;intro t m l;try clear f;try clear C;try clear g
   go_wp2_with fail;go_ret;exact⟨rfl,m.out,l.out⟩
theorem DW(n:Int)(a:1<=n)(b:n<=86):num (fc n)=n:=by
 have:∀ i:Fin 86,num (fc ((i.1:Int)+1))=(i.1:Int)+1:=by decide +kernel
 have h:=this ⟨(n-1).toNat,by omega⟩;simp only at h;rw[show(((n-1).toNat:Nat):Int)+1=n by omega]at h;exact h
theorem qx(s:List UInt8)(h:s ∈ names):fc (num s)=s:=by
 obtain⟨a,b⟩:=sy s names h;have d:=fZ;have c:num s=(ft s names:Int)+1:=by unfold num yJ;rw[if_pos a]
 unfold fc;rw[c,if_pos (by omega),show((ft s names:Int)+1-1).toNat=ft s names by omega,List.getD_eq_getElem?_getD,List.getElem?_eq_getElem a];exact b
theorem xK:ky []=none:=by
 cases h:ky [] with
 | none=>rfl
 | some k=>exact absurd (tX [] (by rw[h];simp)) (by decide +kernel)
def Found(X:Nat->Prop)(w:World)(r:Option Value)(k:Option Pk):Prop:=match k with
 | none=>r=none
 | some kd=>∃ v,r=some v/\Good X w kd v
theorem Pz{X:Nat->Prop}{w:World}{f:Nat}(h:Does X w f)(c:Int):∃ n g r,n<=500/\cX ik w f n g/\g c=r/\Found X w r (ky (fc c)):=by
 obtain⟨n,g,o,m,j,k⟩:=h;refine⟨n,g,g c,o,m,rfl,?_⟩;unfold Found;cases a:ky (fc c)with
 | some q =>
  obtain⟨v,e,i⟩:=j _ q a;have p:fc c≠[]:=fun e=>by rw[e,xK]at a;cases a
  have d:1<=c/\c<=86:=by
   rcases Decidable.em (1<=c/\c<=86)with h | h
   . exact h
   . exact absurd (by unfold fc;rw[if_neg h]) p
  rw[DW c d.1 d.2]at e;exact⟨v,e,i⟩
 | none =>
  refine k c fun s b e=>?_;have l:=tX s (by intro h;rw[h]at b;cases b);rw[<- e,qx s l]at a;rw[a]at b;cases b
def Sk(K:Bk)(w:World)(q:VM × Int)(u:Value):Prop :=
 (∃ f,u=.func (.func f) #[] #[]/\Enters f/\Calls Tryz.prog f #[cD K.mb] w (PV K w q)) \/
 (∃ f a,u=.func (.func f) #[] #[a]/\Enters f/\Calls Tryz.prog f #[cD K.mb,a] w (PV K w q)) \/
 (∃ f a b,u=.func (.func f) #[] #[a,b]/\Enters f/\Calls Tryz.prog f #[cD K.mb,a,b] w (PV K w q))
theorem mg:Enters 406:=fun a w=>call406 a w
theorem Bm:Enters 405:=fun a w=>call405 a w
theorem Bn:Enters 413:=fun a w=>call413 a w
theorem look_ok(D:Int)(f:Nat)(R:VM->Int->Int × Int)(j:vz f R):L9 D 1 413 (hE f) (VM.nH R) :=
 ⟨Bn,fun K w v i c g L h _ k d a e b=>Pv K w v D f R j i c g L h k d a e b⟩
theorem qy{w:World}{K:Bk}{v:VM}(h:dZ w K v)(xt:Int)(b:(v.cell xt).2=0):0<=xt/\xt<=4194304:=by
 have c:=h.vm.sp.mem.le;unfold VM.cell Mem.cell at b;split at b
 . rename_i a;rw[Mem.dX]at a;omega
 . rename_i a;exact absurd b a
theorem TH(c:Int)(h:jD c):(Lit.int .i64 c).wf=true:=by
 have:=wrap64_wf c
 rwa [IntWalk.wrap64_in c h]at this
def Xn(K:Bk)(w:World)(q:VM × Bool)(e:Ending)(w':World):Prop:=e=.returned (.bool q.2)/\dZ w' K q.1/\cq K.ey w w'
theorem Md(v:VM)(n:Int)(h:(v.dw n).2=0)(b:v.r.Ok):(v.dw n).1.r.depth=n/\(v.dw n).1.x=v.x:=by
 obtain⟨e,f,g,i,j,k,d⟩:=b;unfold VM.dw dK.drop at *;split at h
 . simp at h
 . rename_i c
   split at h
   . exact absurd h d
   . rename_i a;simp only[if_neg c,if_neg a];exact⟨trivial,trivial⟩
theorem VM.Me(v:VM)(e:Int):v.throw e =
 if v.cC<4\/e = -2053 then(v,false)else
 if(v.dw v.cC).2≠0 then(v,false)else
 if(VM.fo (v.dw v.cC).1.x.mem (v.dw v.cC).1.r 4).getD 2 0<0\/1048576<(VM.fo (v.dw v.cC).1.x.mem (v.dw v.cC).1.r 4).getD 2 0 then
  ({ ((v.dw v.cC).1.dw (v.cC-4)).1 with ip:=(VM.fo (v.dw v.cC).1.x.mem (v.dw v.cC).1.r 4).getD 0 0,dU:=(VM.fo (v.dw v.cC).1.x.mem (v.dw v.cC).1.r 4).getD 1 0,cC:=VM.eX ((VM.fo (v.dw v.cC).1.x.mem (v.dw v.cC).1.r 4).getD 3 0) },false)else
 if(VM.fE { ((v.dw v.cC).1.dw (v.cC-4)).1 with ip:=(VM.fo (v.dw v.cC).1.x.mem (v.dw v.cC).1.r 4).getD 0 0,dU:=(VM.fo (v.dw v.cC).1.x.mem (v.dw v.cC).1.r 4).getD 1 0,cC:=VM.eX ((VM.fo (v.dw v.cC).1.x.mem (v.dw v.cC).1.r 4).getD 3 0) } ((VM.fo (v.dw v.cC).1.x.mem (v.dw v.cC).1.r 4).getD 2 0)).2≠0 then
  ((VM.fE { ((v.dw v.cC).1.dw (v.cC-4)).1 with ip:=(VM.fo (v.dw v.cC).1.x.mem (v.dw v.cC).1.r 4).getD 0 0,dU:=(VM.fo (v.dw v.cC).1.x.mem (v.dw v.cC).1.r 4).getD 1 0,cC:=VM.eX ((VM.fo (v.dw v.cC).1.x.mem (v.dw v.cC).1.r 4).getD 3 0) } ((VM.fo (v.dw v.cC).1.x.mem (v.dw v.cC).1.r 4).getD 2 0)).1,false)else
 (((VM.fE { ((v.dw v.cC).1.dw (v.cC-4)).1 with ip:=(VM.fo (v.dw v.cC).1.x.mem (v.dw v.cC).1.r 4).getD 0 0,dU:=(VM.fo (v.dw v.cC).1.x.mem (v.dw v.cC).1.r 4).getD 1 0,cC:=VM.eX ((VM.fo (v.dw v.cC).1.x.mem (v.dw v.cC).1.r 4).getD 3 0) } ((VM.fo (v.dw v.cC).1.x.mem (v.dw v.cC).1.r 4).getD 2 0)).1.push [e]).1,
  decide (((VM.fE { ((v.dw v.cC).1.dw (v.cC-4)).1 with ip:=(VM.fo (v.dw v.cC).1.x.mem (v.dw v.cC).1.r 4).getD 0 0,dU:=(VM.fo (v.dw v.cC).1.x.mem (v.dw v.cC).1.r 4).getD 1 0,cC:=VM.eX ((VM.fo (v.dw v.cC).1.x.mem (v.dw v.cC).1.r 4).getD 3 0) } ((VM.fo (v.dw v.cC).1.x.mem (v.dw v.cC).1.r 4).getD 2 0)).1.push [e]).2=0)):=rfl
section
variable (K:Bk) (w:World) (v:VM)
theorem Mf(n:Int)(h:dZ w K v):Calls prog 53 #[cD K.db,I_ n] w (TE K w (v.fE n)) :=
 (oW w K.db K.b v.d n h.vm.dk).mono fun _ _ ⟨c,a,k⟩=>⟨c,h.AV k a (iO _ _),k.mono (fun _ _ e=>.inl e)⟩
theorem xL(n:Int)(h:dZ w K v):Calls prog 53 #[cD K.rb,I_ n] w (SZ K w (v.dw n)) :=
 (oW w K.rb K.b v.r n h.vm.rk).mono fun _ _ ⟨c,a,k⟩=>⟨c,h.FA k a (iO _ _),k.mono (fun _ _ e=>.inl e)⟩
end
def PA(e:Int)(f:Int):Nat:=2*f.toNat+(if e=0 then 1 else 0)
section
variable (K:Bk) (w:World) (v:VM)
end
section
variable (K:Bk) (w:World) (v:VM)
theorem Ii(e:Int)(h:dZ w K v)(i:(v.throw e).2=true):Calls prog 428 #[cD K.mb,I_ e] w (Xn K w (v.throw e)):=by
 have a:=VM.Me v e;by_cases F:v.cC<4\/e = -2053
 . rw[if_pos F]at a
   rw[a]at i;cases i
 rw[if_neg F]at a;by_cases N:(v.dw v.cC).2≠0
 . rw[if_pos N]at a
   rw[a]at i;cases i
 rw[if_neg N]at a;have h1:¬ v.cC<4:=fun e=>F (.inl e);have h2:e ≠ -2053:=fun e=>F (.inr e);generalize v.throw e=av at a i |-;have O:(v.dw v.cC).2=0:=Decidable.byContradiction N;obtain⟨P,aj⟩:=Md v v.cC O h.vm.rk.ok;have Q:(v.dw v.cC).1.cC=v.cC:=rfl;have ab:=h_ fun V (o:dZ V K v)=>xL K V v v.cC o;obtain⟨k,R⟩:∃ k:Nat,v.cC=(k:Int)+4:=⟨(v.cC-4).toNat,by omega⟩;have aw:k<=1048576:=by have:=h.ok.h1;omega
 generalize v.dw v.cC=q at a O P Q ab;obtain⟨u,e1⟩:=q;simp only at a O P Q;subst O;have D:=h_ fun V (o:dZ V K u)=>FH K V u k o (by rw[P];exact R);have HU:=h_ (Q.trans R);have ad:(k:Int)+4-4=k:=by omega
 have aa:=h_ fun V (o:dZ V K u)=>xL K V u (v.cC-4) o;generalize u.dw (v.cC-4)=q at a aa;obtain⟨v2,e2⟩:=q;rw[R,ad]at aa;generalize (VM.fo u.x.mem u.r 4).getD 0 0=b at D a;generalize (VM.fo u.x.mem u.r 4).getD 1 0=d at D a;generalize (VM.fo u.x.mem u.r 4).getD 2 0=s at D a;generalize (VM.fo u.x.mem u.r 4).getD 3 0=t at D a;have HH:=h_ fun V=>vC V t;have hb:=rF t;generalize VM.eX t=l at HH a hb;simp only at a;have ac:=h_ fun V (o:dZ V K { v2 with ip:=b,dU:=d,cC:=l })=>Mf K V { v2 with ip:=b,dU:=d,cC:=l } s o;generalize VM.fE { v2 with ip:=b,dU:=d,cC:=l } s=q at a ac;obtain⟨W,e4⟩:=q;simp only at a;have HP:=h_ fun V (o:dZ V K W)=>jh K V W e 2 o;generalize W.push [e]=q at a HP;obtain⟨v5,e5⟩:=q;simp only at a;have I:=h_ (Bh K w v h);have ah:=h_ (TF K w v h);have af:=h_ (show ∀ g,¬ K.ey g->¬ (g=K.db\/g=K.bb) from fun g n e=>e.elim (fun e=>n (.inr (.inr (.inr (.inl e))))) (fun e=>n (.inr (.inr (.inl e)))));have R0:=h_ h;have K0:=h_ (cq.refl K.ey w);have p:=R0.out.m2;have m:=R0.out.m16;have d1:decide (v.cC<4)=false:=decide_eq_false h1;have d2:(e == -2053)=false:=by simp[h2]
 have ax:IntKind.i64.wrap ((k:Int)+4-4)=k:=by rw[ad];exact IntWalk.i64_in _ (by omega)
 have ay:IntKind.i64.wrap (k:Int)=k:=IntWalk.i64_in _ (by omega);by_cases E:s<0\/1048576<s
 . rw[if_pos E]at a
   rw[a]at i;cases i
 rw[if_neg E]at a;by_cases h7:e4=0
 . rw[if_neg (by simp[h7])]at a
   rw[a]at i;have h8:e5=0:=of_decide_eq_true i;subst h7 h8;subst a;have d5:decide (s<0)=false:=decide_eq_false (fun e=>E (.inl e));have d6:decide (1048576<s)=false:=decide_eq_false (fun e=>E (.inr e));clear h h1 h2 F N P aj Q R E i;go_enter func428,ntmps428;go_wp2_with fail
   go_region_held3 (fun w'=>C_ w' K.mb 2=some (cD K.rb)/\C_ w' K.mb 16=some (I_ v.cC))
    (first | go_keep | exact⟨H,G⟩)
    (first | (go_at_call 53;refine(ab.out w.drew (R0.out.cL (cq.drew _ _))).mono ?_;rintro e w1 ⟨rfl,r1,S⟩;dsimp only;have H:=S.cell p I.out;have G:=S.cell m I.out))
   have C:=h_ r1;have K1:=h_ ((cq.drew K.ey w).trans (lJ K S));clear H G r1 S p m;have C:Hid (dZ w1 K u):=C;have p:=C.out.m2;go_wp2_with fail;refine(D.out w1 C.out).mono ?_;rintro e w2 ⟨g,c,rfl,hc,hg,⟨z0,z1,z2,z3⟩,k2⟩;have R2:=h_ (C.out.cL k2);have K2:=h_ (K1.out.trans (lK K k2));have ag:=h_ C.out.sV;have ng:¬ K.ey g:=fun e=>by
    have:=ag.out;unfold Bk.ey at e;omega
   have B:=h_ ng;clear k2 ng p;have HC:=h_ hc;clear hg;have p:=R2.out.m2;have m:=R2.out.m16;rw[HU.out]at m;go_wp2_with fail
   go_region_held3 (fun w'=>C_ w' K.mb 2=some (cD K.rb)/\C_ w' K.mb 16=some (I_ ((k:Int)+4)))
    (first | go_keep | exact⟨H,G⟩)
    (first | (go_at_call 53;refine(aa.out w2.drew (R2.out.cL (cq.drew _ _))).mono ?_;rintro e f ⟨rfl,r4,T⟩;dsimp only;have H:=T.cell p I.out;have G:=T.cell m I.out))
   have y:=h_ r4;have A:=h_ ((cq.drew K.ey w2).trans (lJ K T));have K4:=h_ (K2.out.trans A.out);clear H G r4 T p m;have X:C_ f g k=some (I_ b):=A.out.cell z0 B.out;have Y:C_ f g (k+1)=some (I_ d):=A.out.cell z1 B.out;have ae:C_ f g (k+2)=some (I_ s):=A.out.cell z2 B.out;have Z:C_ f g (k+3)=some (I_ t):=A.out.cell z3 B.out;clear z0 z1 z2 z3 A;have HT:=h_ (y.out.Sj b d l hb.1 hb.2);have J:=h_ ((gh f K.mb 5 (I_ b)).trans (cq.drew _ _));have L:=h_ (((gh f K.mb 5 (I_ b)).trans (gh _ K.mb 6 (I_ d))).trans (cq.drew _ _));have z:=h_ ((qw f K.mb (I_ b) (I_ d) (I_ l)).trans (cq.drew _ _));have c5:=y.out.m5;have c6:=y.out.m6;have m:=y.out.m16;have f5:=y.out.er 5;have f6:=y.out.er 6;have ai:=y.out.er 16;have j:=h_ (show g≠K.mb from fun e=>B.out (.inl e));have ak:(f.setCell ⟨K.mb,5,none⟩ (I_ b)).drew.cell? ⟨g,k,none⟩=some (I_ b):=J.out.cell X j.out;have al:(f.setCell ⟨K.mb,5,none⟩ (I_ b)).drew.cell? ⟨g,k+1,none⟩=some (I_ d):=J.out.cell Y j.out;have am:(f.setCell ⟨K.mb,5,none⟩ (I_ b)).drew.cell? ⟨g,k+3,none⟩=some (I_ t):=J.out.cell Z j.out;have an:((f.setCell ⟨K.mb,5,none⟩ (I_ b)).setCell ⟨K.mb,6,none⟩ (I_ d)).drew.cell? ⟨g,k,none⟩=some (I_ b):=L.out.cell X j.out;have ao:((f.setCell ⟨K.mb,5,none⟩ (I_ b)).setCell ⟨K.mb,6,none⟩ (I_ d)).drew.cell? ⟨g,k+1,none⟩=some (I_ d):=L.out.cell Y j.out;have ap:((f.setCell ⟨K.mb,5,none⟩ (I_ b)).setCell ⟨K.mb,6,none⟩ (I_ d)).drew.cell? ⟨g,k+3,none⟩=some (I_ t):=L.out.cell Z j.out;have aq:(((f.setCell ⟨K.mb,5,none⟩ (I_ b)).setCell ⟨K.mb,6,none⟩ (I_ d)).setCell ⟨K.mb,16,none⟩ (I_ l)).drew.cell? ⟨g,k,none⟩=some (I_ b):=z.out.cell X j.out;have ar:(((f.setCell ⟨K.mb,5,none⟩ (I_ b)).setCell ⟨K.mb,6,none⟩ (I_ d)).setCell ⟨K.mb,16,none⟩ (I_ l)).drew.cell? ⟨g,k+1,none⟩=some (I_ d):=z.out.cell Y j.out;have au:(((f.setCell ⟨K.mb,5,none⟩ (I_ b)).setCell ⟨K.mb,6,none⟩ (I_ d)).setCell ⟨K.mb,16,none⟩ (I_ l)).drew.cell? ⟨g,k+3,none⟩=some (I_ t):=z.out.cell Z j.out;go_wp2_with fail
   go_region_held3 (fun w'=>C_ w' g k=some (I_ b)/\C_ w' g (k+1)=some (I_ d)/\C_ w' g (k+3)=some (I_ t))
    (first | go_keep)
    (first | (go_at_call 352;refine(HH.out _).mono ?_;rintro e w9 ⟨rfl,rfl⟩;dsimp only))
   have R5:=h_ (HT.out.cL (cq.drew _ _));have K5:=h_ (K4.out.trans (gW K z.out));have zz:=z.out.cell ae j.out;clear ak al am an ao ap aq ar au X Y ae Z c5 c6 m f5 f6 ai HT J L z;generalize (((f.setCell ⟨K.mb,5,none⟩ (I_ b)).setCell ⟨K.mb,6,none⟩ (I_ d)).setCell ⟨K.mb,16,none⟩ (I_ l)).drew=w5 at R5 K5 zz |-
   skip
   have M:=R5.out.m1;go_wp2_with fail
   go_region_held3 (fun w'=>C_ w' K.mb 1=some (cD K.db)/\C_ w' g (k+2)=some (I_ s))
    (first | go_keep | exact⟨t1,tz⟩)
    (first | (go_at_call 53;refine(ac.out w5.drew (R5.out.cL (cq.drew _ _))).mono ?_;rintro e w6 ⟨rfl,r6,U⟩;dsimp only;have t1:=U.cell M ah.out;have tz:=U.cell zz (af.out g B.out)))
   have R6:Hid (dZ w6 K W):=h_ r6;have K6:=h_ ((K5.out.trans (cq.drew K.ey w5)).trans (Bg K U));clear t1 tz r6 U M zz;have M:=R6.out.m1;go_wp2_with fail;refine nv (HP.out w6 R6.out) K6 ?_;intro w7 R7 K7;try clear M;try clear p;try clear c5;try clear c6;try clear m
   go_wp2_with fail;go_ret;exact⟨rfl,R7.out,K7.out⟩
 . rw[if_pos h7]at a
   rw[a]at i;cases i
theorem Bo(e:Int)(h:dZ w K v)(b:(VM.ez (v,e)).2=0):Calls prog 420 #[cD K.mb,I_ e] w (PV K w (VM.ez (v,e))):=by
 by_cases a:e=0
 . subst a
   have c:VM.ez (v,0)=(v,0):=rfl;rw[c];have i:=h_ h;have d:=h_ (cq.refl K.ey w);clear h c b;go_enter func420,ntmps420;go_wp2_with fail;go_ret;exact⟨rfl,i.out,d.out⟩
 . have c:VM.ez (v,e)=((v.throw e).1,if(v.throw e).2 then 0 else e):=by unfold VM.ez;rw[if_neg a]
   rw[c]at b |-;have f:(v.throw e).2=true:=by
    cases l:(v.throw e).2 with
    | true=>rfl
    | false=>rw[l]at b;exact absurd b a
   have g:=h_ (Ii K w v e h f);generalize v.throw e=q at g f |-;obtain⟨n,t⟩:=q;obtain rfl:t=true:=f;have m:(e == 0)=false:=by simp[a]
   have i:=h_ h;have d:=h_ (cq.refl K.ey w);clear h c a b;simp only[if_true];go_enter func420,ntmps420;go_wp2_with fail;refine nv (g.out) d ?_;intro o k j
   skip
   go_wp2_with fail;go_ret;exact⟨rfl,k.out,j.out⟩
end
end Go.Proofs.dS
