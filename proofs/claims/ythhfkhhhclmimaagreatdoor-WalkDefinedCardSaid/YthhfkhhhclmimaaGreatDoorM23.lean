/- A part of WalkG. No condition. -/
import Derived.Test.YthhfkhhhclmimaaGreatDoorM04
import Derived.Test.YthhfkhhhclmimaaGreatDoorM22
import Derived.Deep.CutBlock
set_option linter.unusedVariables false
set_option linter.unusedSimpArgs false
open Go.Proofs.Tryz
set_option maxRecDepth 10000
set_option maxHeartbeats 4000000
namespace Go.Proofs.dS
open Go Go.RowKit Go.Proofs.K
structure jB(w:World)(q:Nat)(s:List UInt8)(n:Nat):Prop where
 head:w.heap[q]?=some (.cells #[S_ s,I_ (n:Int)] 172 (0,0))
 le:n<=s.length
 AH:s.length<=1099511627776
theorem jB.ct{w w':World}{q:Nat}{s:List UInt8}{n:Nat}(h:jB w q s n){S:Nat->Prop}(k:cq S w w')(a:¬ S q):jB w' q s n:=⟨k.heap h.head a,h.le,h.AH⟩
theorem jB.cM{w:World}{q:Nat}{s:List UInt8}{n:Nat}(h:jB w q s n)(m:Nat)(a:m<=s.length):jB (w.setCell ⟨q,1,none⟩ (I_ (m:Int))) q s m:=⟨cz h.head _,a,h.AH⟩
theorem yV(w:World)(s:List UInt8)(a:s.length<=1099511627776):Calls prog 74 #[S_ s] w fun e w'=>e=.returned (cD w.heap.size)/\jB w' w.heap.size s 0/\K_ w w':=by
 go_enter func74,ntmps74;go_wp2;go_ret;exact⟨rfl,⟨cx w _,Nat.zero_le _,a⟩,cq.alloc _ _ _⟩
theorem xz(w:World)(c:UInt8):Calls prog 141 #[.int .u8 (c.toNat:Int)] w fun e w'=>e=.returned (.bool (Src.blank c))/\K_ w w':=by
 have a:Hid (Src.blank c=decide (c.toNat<=32)):=rfl;generalize Src.blank c=r at a |-;generalize c.toNat=x at a |-;by_cases h:x<=32
 . have b:decide ((x:Int)<=32)=true:=decide_eq_true (by omega)
   go_enter func141,ntmps141;go_wp2;go_ret;refine⟨?_,cq.refl _ _⟩;rw[a.out,decide_eq_true h];rfl
 . have b:decide ((x:Int)<=32)=false:=decide_eq_false (by omega)
   go_enter func141,ntmps141;go_wp2;go_ret;refine⟨?_,cq.refl _ _⟩;rw[a.out,decide_eq_false h];rfl
def Fc(w:World)(q:Nat):Nat:=match w.cell? ⟨q,1,none⟩with
 | some v=>(intOf v).toNat
 | none=>0
theorem jB.Fe{w:World}{q:Nat}{s:List UInt8}{n:Nat}(h:jB w q s n):Fc w q=n:=by
 unfold Fc;rw[cp (i:=1) h.head rfl];simp[intOf]
theorem jg(s:List UInt8)(i j:Nat)(a:i<=j):Value.string ((⟨s.toArray⟩:ByteArray).extract i j)=S_ ((s.drop i).take (j-i)):=by
 congr 1;apply ByteArray.ext;rw[ByteArray.data_extract];apply Array.ext';simp[List.take_drop]
theorem Lq(w:World)(q:Nat)(s:List UInt8)(n:Nat)(aa:jB w q s n) :
 Calls prog 76 #[cD q] w fun e w'=>e=.returned (.string ⟨(Src.dA s n).1.toArray⟩)/\jB w' q s (Src.dA s n).2/\cq (fun g=>g=q) w w':=by
 have ak:=h_ aa;have av:=aa.AH;have au:=aa.le;clear aa;go_enter func76,ntmps76
 go_upto_block 0 with (fail)
 go_cut [] (fun Z=>∃ i,Src.skip s n=i/\jB Z q s i/\cq (fun g=>g=q) w Z)
 case first =>
  go_wp2_with fail
  go_loopw [] (fun wr=>∃ i:Nat,n<=i/\jB wr q s i/\(∀ k (t:k<s.length),n<=k->k<i->Src.blank s[k]=true)/\cq (fun g=>g=q) w wr) (fun wr=>s.length-Fc wr q)
  case atStart=>exact⟨n,Nat.le_refl _,ak.out,fun k t R h2=>by omega,cq.refl _ _⟩
  case round =>
   obtain⟨i,L,u,T,t⟩:=hrel;have V:=u.le;have o:=h_ u;have E:=h_ T;have F:=h_ t;have x:=fun (p:fP wr)=>p.2.cell (cp (i:=0) u.head rfl) id;have y:=fun (p:fP wr)=>p.2.cell (cp (i:=1) u.head rfl) id;clear u T t;by_cases A:i<s.length
   . have af:(0:Int)<=(i:Int):=by omega
     have ac:(i:Int)<(s.length:Int):=by omega
     have P:decide ((i:Int)<(s.length:Int))=true:=decide_eq_true ac;have J:=h_ fun (p:fP wr)=>xz p.1 s[i];generalize Y:Src.blank s[i]=r at J;have N:=h_ Y;clear Y;go_wp2_with fail;refine Go.Proofs.K.cW ?iX ?iY ?_;case iX=>kernel_rfl
     case iY=>kernel_rfl
     repeat ((with_reducible refine wpQuiet_step ?_);intro b a;go_simp;first | ((with_reducible refine a _ ?_);clear a b) | (refine a _ ?_;clear a b) | (apply Exists.intro;refine⟨fun _=>?_,a _ ?_⟩;(exact K.gO (J.out _));clear a b))
     with_reducible refine wpQuiet_nil ?_
     intro C l;obtain⟨⟨M,f⟩,m⟩:=l;subst m;have d:=h_ f;clear f x y J;have c1:=cp (i:=1) (o.out.ct d.out id).head rfl;have f1:=cB (i:=1) (o.out.ct d.out id).head;cases r with
     | true =>
      have I:=h_ ((o.out.ct d.out id).cM (i+1) (by omega));have H:=h_ ((F.out.trans (d.out.mono (fun _ _ e=>e.elim))).trans (cq.setCell (S:=fun g=>g=q) C ⟨q,1,none⟩ (I_ (((i+1:Nat):Nat):Int)) (fun _=>rfl)));go_wp2;go_roundw
      case rel=>exact⟨i+1,by omega,I.out,fun k t R h2=>by
       by_cases ad:k=i
       . subst ad;exact N.out
       . exact E.out k t R (by omega),H.out⟩
      case measure =>
       have Q:=I.out.Fe;have e2:=o.out.Fe;push_cast at Q;rw[Q,e2];omega
     | false =>
      have v:Src.skip s n=i:=Src.ED s n i L V E.out (.inr ⟨A,N.out⟩);have G:=h_ v;clear v;go_wp2;go_meet;exact⟨i,G.out,o.out.ct d.out id,F.out.trans (d.out.mono (fun _ _ e=>e.elim))⟩
   . have U:i=s.length:=by omega
     have v:Src.skip s n=i:=Src.ED s n i L V E.out (.inl U);have G:=h_ v;have P:decide ((i:Int)<(s.length:Int))=false:=decide_eq_false (by omega);clear v U;go_wp2_with fail;refine Go.Proofs.K.cW ?nM ?nO ?_;case nM=>kernel_rfl
     case nO=>kernel_rfl
     repeat ((with_reducible refine wpQuiet_step ?_);intro b a;go_simp;first | ((with_reducible refine a _ ?_);clear a b) | (refine a _ ?_;clear a b) | (apply Exists.intro;refine⟨fun _=>?_,a _ ?_⟩;(fail);clear a b))
     with_reducible refine wpQuiet_nil ?_
     intro C l;obtain⟨⟨M,f⟩,m⟩:=l;subst m;have d:=h_ f;clear f x y;go_wp2;go_meet;exact⟨i,G.out,o.out.ct d.out id,F.out.trans (d.out.mono (fun _ _ e=>e.elim))⟩
 case rest =>
  obtain⟨h,ag,ab,ah⟩:=hcut;have H1:=h_ ab;have K1:=h_ ah;have ae:=h_ ag;have ao:=ab.le;have c1:=cp (i:=1) ab.head rfl;clear ab ah ag
  go_upto_block 2 with (fail)
  clear c1
  go_cut [] (fun Z=>∃ j,h<=j/\Src.dA s n=((s.drop h).take (j-h),if(s.drop j).head?.any (fun c=>decide (c.toNat≠10))then j+1 else j)/\jB Z q s j/\cq (fun g=>g=q) w Z)
  case first =>
   go_wp2_with fail
   go_loopw [] (fun wr=>∃ i:Nat,h<=i/\jB wr q s i/\(∀ k (t:k<s.length),h<=k->k<i->Src.blank s[k]=false)/\cq (fun g=>g=q) w wr) (fun wr=>s.length-Fc wr q)
   case atStart=>exact⟨h,Nat.le_refl _,H1.out,fun k t R h2=>by omega,K1.out⟩
   case round =>
    obtain⟨i,L,u,T,t⟩:=hrel;have V:=u.le;have o:=h_ u;have E:=h_ T;have F:=h_ t;have x:=fun (p:fP wr)=>p.2.cell (cp (i:=0) u.head rfl) id;have y:=fun (p:fP wr)=>p.2.cell (cp (i:=1) u.head rfl) id;clear u T t;by_cases A:i<s.length
    . have af:(0:Int)<=(i:Int):=by omega
      have ac:(i:Int)<(s.length:Int):=by omega
      have P:decide ((i:Int)<(s.length:Int))=true:=decide_eq_true ac;have J:=h_ fun (p:fP wr)=>xz p.1 s[i];generalize Y:Src.blank s[i]=r at J;have N:=h_ Y;clear Y;go_wp2_with fail;refine Go.Proofs.K.cW ?vb ?vc ?_;case vb=>kernel_rfl
      case vc=>kernel_rfl
      repeat ((with_reducible refine wpQuiet_step ?_);intro b a;go_simp;first | ((with_reducible refine a _ ?_);clear a b) | (refine a _ ?_;clear a b) | (apply Exists.intro;refine⟨fun _=>?_,a _ ?_⟩;(exact K.gO (J.out _));clear a b))
      with_reducible refine wpQuiet_nil ?_
      intro C l;obtain⟨⟨M,f⟩,m⟩:=l;subst m;have d:=h_ f;clear f x y J;have c1:=cp (i:=1) (o.out.ct d.out id).head rfl;have f1:=cB (i:=1) (o.out.ct d.out id).head;cases r with
      | false =>
       have I:=h_ ((o.out.ct d.out id).cM (i+1) (by omega));have H:=h_ ((F.out.trans (d.out.mono (fun _ _ e=>e.elim))).trans (cq.setCell (S:=fun g=>g=q) C ⟨q,1,none⟩ (I_ (((i+1:Nat):Nat):Int)) (fun _=>rfl)));go_wp2;go_roundw
       case rel=>exact⟨i+1,by omega,I.out,fun k t R h2=>by
        by_cases ad:k=i
        . subst ad;exact N.out
        . exact E.out k t R (by omega),H.out⟩
       case measure =>
        have Q:=I.out.Fe;have e2:=o.out.Fe;push_cast at Q;rw[Q,e2];omega
      | true =>
       have v:Src.dA s n=((s.drop h).take (i-h),if(s.drop i).head?.any (fun c=>decide (c.toNat≠10))then i+1 else i):=Src.EG s n h i ae.out L V E.out (.inr ⟨A,N.out⟩);have G:=h_ v;clear v;go_wp2;go_meet;exact⟨i,L,G.out,o.out.ct d.out id,F.out.trans (d.out.mono (fun _ _ e=>e.elim))⟩
    . have U:i=s.length:=by omega
      have v:Src.dA s n=((s.drop h).take (i-h),if(s.drop i).head?.any (fun c=>decide (c.toNat≠10))then i+1 else i):=Src.EG s n h i ae.out L V E.out (.inl U);have G:=h_ v;have P:decide ((i:Int)<(s.length:Int))=false:=decide_eq_false (by omega);clear v U;go_wp2_with fail;refine Go.Proofs.K.cW ?Dc ?Dd ?_;case Dc=>kernel_rfl
      case Dd=>kernel_rfl
      repeat ((with_reducible refine wpQuiet_step ?_);intro b a;go_simp;first | ((with_reducible refine a _ ?_);clear a b) | (refine a _ ?_;clear a b) | (apply Exists.intro;refine⟨fun _=>?_,a _ ?_⟩;(fail);clear a b))
      with_reducible refine wpQuiet_nil ?_
      intro C l;obtain⟨⟨M,f⟩,m⟩:=l;subst m;have d:=h_ f;clear f x y;go_wp2;go_meet;exact⟨i,L,G.out,o.out.ct d.out id,F.out.trans (d.out.mono (fun _ _ e=>e.elim))⟩
  case rest =>
   obtain⟨j,al,aj,X,ai⟩:=hcut;have aq:=X.le;have HX:=h_ (jg s h j al);have af:(0:Int)<=(h:Int):=by omega
   have an:(h:Int)<=(j:Int):=by omega
   have ar:(j:Int)<=(s.length:Int):=by omega
   have ap:(0:Int)<=(j:Int):=by omega
   have WD:=h_ aj;have D:=h_ X;have H:=h_ ai;have x:=fun (p:fP wc)=>p.2.cell (cp (i:=0) X.head rfl) id;have y:=fun (p:fP wc)=>p.2.cell (cp (i:=1) X.head rfl) id;clear aj X ai;go_wp2_with fail;refine Go.Proofs.K.cW ?De ?Df ?_;case De=>kernel_rfl
   case Df=>kernel_rfl
   repeat ((with_reducible refine wpQuiet_step ?_);intro b a;go_simp;first | ((with_reducible refine a _ ?_);clear a b) | (refine a _ ?_;clear a b) | (apply Exists.intro;refine⟨fun _=>?_,a _ ?_⟩;(fail);clear a b))
   with_reducible refine wpQuiet_nil ?_
   intro C l;obtain⟨⟨M,f⟩,m⟩:=l;subst m;have d:=h_ f;clear f x y;have x:=fun (p:fP C)=>p.2.cell (cp (i:=0) (D.out.ct d.out id).head rfl) id;have y:=fun (p:fP C)=>p.2.cell (cp (i:=1) (D.out.ct d.out id).head rfl) id;rw[HX.out];by_cases A:j<s.length
   . have am:(j:Int)<(s.length:Int):=by omega
     have P:decide ((j:Int)<(s.length:Int))=true:=decide_eq_true am;by_cases W:s[j].toNat=10
     . have d2:((((⟨s.toArray⟩:ByteArray)[j]'A).toNat:Int) != 10)=false:=by
        show((s[j].toNat:Int) != 10)=false;simp[W]
       have B:Src.dA s n=((s.drop h).take (j-h),j):=by
        rw[WD.out];congr 1;rw[List.drop_eq_getElem_cons A,List.head?_cons];simp[W]
       have O:=h_ B;clear B W;go_wp2_with fail;refine Go.Proofs.K.cW ?Dg ?Dh ?_;case Dg=>kernel_rfl
       case Dh=>kernel_rfl
       repeat ((with_reducible refine wpQuiet_step ?_);intro b a;go_simp;first | ((with_reducible refine a _ ?_);clear a b) | (refine a _ ?_;clear a b) | (apply Exists.intro;refine⟨fun _=>?_,a _ ?_⟩;(fail);clear a b))
       with_reducible refine wpQuiet_nil ?_
       intro v2 l;obtain⟨⟨M,f⟩,m⟩:=l;subst m;have z:=h_ (d.out.trans f);clear f x y;go_wp2;go_ret;rw[O.out];exact⟨rfl,D.out.ct z.out id,H.out.trans (z.out.mono (fun _ _ e=>e.elim))⟩
     . have d2:((((⟨s.toArray⟩:ByteArray)[j]'A).toNat:Int) != 10)=true:=by
        show((s[j].toNat:Int) != 10)=true;simp;omega
       have B:Src.dA s n=((s.drop h).take (j-h),j+1):=by
        rw[WD.out];congr 1;rw[List.drop_eq_getElem_cons A,List.head?_cons];simp[W]
       have O:=h_ B;clear B W;go_wp2_with fail;refine Go.Proofs.K.cW ?Di ?Dj ?_;case Di=>kernel_rfl
       case Dj=>kernel_rfl
       repeat ((with_reducible refine wpQuiet_step ?_);intro b a;go_simp;first | ((with_reducible refine a _ ?_);clear a b) | (refine a _ ?_;clear a b) | (apply Exists.intro;refine⟨fun _=>?_,a _ ?_⟩;(fail);clear a b))
       with_reducible refine wpQuiet_nil ?_
       intro v2 l;obtain⟨⟨M,f⟩,m⟩:=l;subst m;have z:=h_ (d.out.trans f);clear f x y;have c1:=cp (i:=1) (D.out.ct z.out id).head rfl;have f1:=cB (i:=1) (D.out.ct z.out id).head;have I:=h_ ((D.out.ct z.out id).cM (j+1) (by omega));have KS:=h_ ((H.out.trans (z.out.mono (fun _ _ e=>e.elim))).trans (cq.setCell (S:=fun g=>g=q) v2 ⟨q,1,none⟩ (I_ (((j+1:Nat):Nat):Int)) (fun _=>rfl)));go_wp2;go_ret;rw[O.out];exact⟨rfl,I.out,KS.out⟩
   . have P:decide ((j:Int)<(s.length:Int))=false:=decide_eq_false (by omega)
     have B:Src.dA s n=((s.drop h).take (j-h),j):=by
      rw[WD.out];congr 1;rw[List.drop_eq_nil_of_le (by omega)];simp
     have O:=h_ B;clear B;go_wp2_with fail;refine Go.Proofs.K.cW ?Rw ?Rx ?_;case Rw=>kernel_rfl
     case Rx=>kernel_rfl
     repeat ((with_reducible refine wpQuiet_step ?_);intro b a;go_simp;first | ((with_reducible refine a _ ?_);clear a b) | (refine a _ ?_;clear a b) | (apply Exists.intro;refine⟨fun _=>?_,a _ ?_⟩;(fail);clear a b))
     with_reducible refine wpQuiet_nil ?_
     intro v2 l;obtain⟨⟨M,f⟩,m⟩:=l;subst m;have z:=h_ (d.out.trans f);clear f x y;go_wp2;go_ret;rw[O.out];exact⟨rfl,D.out.ct z.out id,H.out.trans (z.out.mono (fun _ _ e=>e.elim))⟩
open Go Go.RowKit Go.Proofs.K Go.Proofs.tI
def kz:List UInt8->List UInt8->List (List UInt8)
 | _,[]=>[]
 | cur,c :: r=>if c=32 then cur :: kz [] r else kz (cur++[c]) r
theorem Ht(cur r:List UInt8):kz cur (32 :: r)=cur :: kz [] r:=by rw[kz,if_pos rfl]
theorem Dl(cur r:List UInt8)(c:UInt8)(h:c≠32):kz cur (c :: r)=kz (cur++[c]) r:=by rw[kz,if_neg h]
def yW:List UInt8:=names.flatMap fun n=>n++[32]
theorem Hu:kz [] yW=names:=by decide +kernel
theorem Dm:yW.length<=1000:=by decide +kernel
theorem Dn(w:World):Calls prog 212 #[] w fun e w'=>e=.returned (S_ yW)/\w=w':=by
 go_enter func212,ntmps212;go_wp2;go_ret;exact⟨congrArg (fun l=>Ending.returned (.string ⟨List.toArray l⟩)) (by decide +kernel),rfl⟩
theorem Lr(w:World)(t:List UInt8):∀ j u,[Value.string ⟨t.toArray⟩][j]?=some u->(w.alloc (.cells #[Value.string ⟨t.toArray⟩] 9)).cell? ((⟨w.heap.size,0,none⟩:Addr).add j)=some u:=by
 intro j u a;cases j with
 | zero =>
  cases a;exact cp (cx w _) rfl
 | succ j=>cases a
theorem OZ(t:List UInt8):∀ u ∈ [Value.string ⟨t.toArray⟩],u.oneCell'=true:=by
 intro u a;simp only[List.mem_singleton]at a;rw[a];rfl
theorem Dp{n i:Nat}(h:i<n)(e:wrap64 ((i:Int)+1)=(i:Int)+1):n-(intOf (I_ (wrap64 ((i:Int)+1)))).toNat<n-(intOf (I_ (i:Int))).toNat:=by
 rw[e];show n-((i:Int)+1).toNat<n-(i:Int).toNat
 omega
theorem yX(w:World)(T:List UInt8)(m:List (List UInt8))(O:T.length<=1000)(I:kz [] T=m)(K:m.length=86)
 (N:∀ V:World,Calls prog 212 #[] V fun e w'=>e=.returned (S_ T)/\V=w') :
 Calls prog 135 #[] w fun e w'=>∃ g b,e=.returned (.slice (some ⟨g,0,none⟩) 86 b)/\fp w' 9 1 (some ⟨g,0,none⟩) 86 b (m.map nm)/\w.heap.size<=g/\K_ w w':=by
 have ad:=h_ O;have ab:=h_ I;have HT:=h_ N;have j:=h_ K;clear O I N K;go_enter func135,ntmps135;go_wp2_with fail;refine eD (HT.out _) ?_;go_wp2_with fail
 go_loopw [1,3,4] (fun ov av iv wr=>∃ (L:List (List UInt8)) (a i:Nat) (f:Option Addr) (b:Nat),a<=i/\i<=T.length/\iv=I_ i/\av=I_ a/\ov=.slice f L.length b/\fp wr 9 1 f L.length b (L.map nm) /\
  (∀ g,dF f=some g->w.heap.size<=g)/\L++kz ((T.drop a).take (i-a)) (T.drop i)=m/\K_ w wr) (fun _ _ i _=>T.length-(intOf i).toNat)
 case atStart=>exact⟨[],0,0,none,0,Nat.le_refl _,Nat.zero_le _,rfl,rfl,rfl,fp.nil _ _ _,(fun g e=>by cases e),ab.out,cq.refl _ _⟩
 case round =>
  obtain⟨L,a,i,f,b,ae,hi,rfl,rfl,rfl,U,R,z,S⟩:=hrel;have p:=h_ S;have q:=h_ U;have s:=h_ R;have d:=h_ z;have hL:L.length<=86:=by
   have:=congrArg List.length z;rw[j.out,List.length_append]at this;omega
  clear S U R z;by_cases n:i<T.length
  . have c2:(i:Int)<T.length:=by omega
    have c3:(0:Int)<=i:=by omega
    have G:wrap64 ((i:Int)+1)=(i:Int)+1:=IntWalk.wrap64_in _ (by have:=ad.out;omega);have Q:T.drop i=T[i] :: T.drop (i+1):=List.drop_eq_getElem_cons n;have W:(T.drop a).take (i+1-a)=(T.drop a).take (i-a)++[T[i]]:=by
     rw[show i+1-a=(i-a)+1 from by omega,List.take_add_one];congr 1;rw[List.getElem?_drop,show a+(i-a)=i from by omega,List.getElem?_eq_getElem n];rfl
    rw[Q]at d;have u:=h_ W;obtain⟨c,A⟩:∃ c,c=T[i]:=⟨_,rfl⟩;rw[<- A]at d u;have aa:=h_ A;clear W Q A;have P:((c.toNat:Int) == 32)=decide (c=32):=by
     by_cases h:c=32
     . subst h;rfl
     . rw[decide_eq_false h]
       have:¬ ((c.toNat:Int)=32):=fun e=>h (UInt8.toNat_inj.mp (show c.toNat=(32:UInt8).toNat from by show c.toNat=32;omega));simp[this]
    have ac:=h_ P;clear P;go_upto_region 7 with fail
    go_cut [15] (fun v wx=>v=.bool (decide (c=32))/\wx=wr)
    case first =>
     go_wp2;go_meet;exact⟨by rw[<- ac.out,aa.out];rfl,rfl⟩
    case rest =>
     obtain⟨rfl,rfl⟩:=hcut;by_cases y:c=32
     . subst y
       have E:=h_ (jg T a i ae);have k:kz ((T.drop a).take (i-a)) (32 :: T.drop (i+1))=(T.drop a).take (i-a) :: kz [] (T.drop (i+1)):=Ht _ _;have o:=d.out;rw[k]at o;have D:=h_ o;have ah:L.length+1<=86:=by
        have:=congrArg List.length o;rw[j.out,List.length_append,List.length_cons]at this;omega
       clear k o d;generalize (T.drop a).take (i-a)=cur at E D u;have r:decide ((32:UInt8)=32)=true:=rfl;rw[r];have b0:(0:Int)<=(a:Int):=by omega
       have b1:(a:Int)<=(i:Int):=by omega
       have b2:(i:Int)<=(T.length:Int):=by omega
       have B:=s.out;have C:=dR wc (.cells #[Value.string ⟨cur.toArray⟩] 9);have O0:=h_ (q.out.ct C (fun _ _=>id))
       go_wp2_with (first
        | (rw[E.out])
        | (at_builtin;refine eB rfl _ _ 30 rfl 9 _ 1 16 underlying30 Te rfl (by decide) f L.length b (L.map nm) rfl ?t1 ⟨wc.heap.size,0,none⟩ 1 1 [S_ cur] rfl rfl (Lr wc cur) (OZ cur) ?t3 ?t4 ?_))
       case t1=>exact O0.out
       case t3=>unfold maxLen;omega
       case t4=>omega
       intro x F w4 Z X Y;have ai:=p.out.size;have K4:=h_ ((p.out.trans C).dh X (fun i hi e=>absurd (B i e) (by omega)));have O4:=h_ (show fp w4 9 1 x (L.length+1) F ((L++[cur]).map nm) from by rw[List.map_append];exact Z)
       have G4:=h_ (show ∀ g,dF x=some g->w.heap.size<=g from fun g e=>by
        rcases Y with l | l
        . exact B g (l ▸ e)
        . rw[l]at e;cases e;omega)
       clear C Z X Y B;go_wp2;go_roundw;case rel=>exact⟨L++[cur],i+1,i+1,x,F,Nat.le_refl _,by omega,by go_num,by go_num,by rw[List.length_append];rfl,by rw[List.length_append];exact O4.out,G4.out,by rw[Nat.sub_self,List.take_zero,List.append_assoc];exact D.out,K4.out⟩
       case measure=>exact Dp n G
     . have k:kz ((T.drop a).take (i-a)) (c :: T.drop (i+1))=kz ((T.drop a).take (i-a)++[c]) (T.drop (i+1)):=Dl _ _ _ y
       rw[k]at d;have r:decide (c=32)=false:=decide_eq_false y;rw[r];clear k r;go_wp2;go_roundw;case rel=>exact⟨L,a,i+1,f,b,by omega,by omega,by go_num,rfl,rfl,q.out,s.out,by rw[u.out];exact d.out,p.out⟩
       case measure=>exact Dp n G
  . have ag:i=T.length:=by omega
    subst ag;have hn:¬ ((T.length:Int)<T.length):=by omega
    have J:L=m:=by
     have:=d.out;rw[List.drop_length]at this;simpa[kz] using this
    have t:=h_ J;clear J n;go_wp2;go_ret;obtain⟨g,af⟩:∃ g,f=some ⟨g,0,none⟩:=by
     rcases q.out.jK with⟨H,e2,_⟩ | ⟨g,cur,H,_⟩
     . have:=j.out;rw[<- t.out]at this;omega
     . exact⟨g,H⟩
    subst af;have M:=q.out;rw[t.out,j.out]at M;rw[t.out,j.out];exact⟨g,b,rfl,M,s.out g rfl,p.out⟩
theorem Hv(w:World):Calls prog 135 #[] w fun e w'=>∃ g a,e=.returned (.slice (some ⟨g,0,none⟩) 86 a)/\fp w' 9 1 (some ⟨g,0,none⟩) 86 a (names.map nm)/\w.heap.size<=g/\K_ w w' :=
 yX w yW names Dm Hu fZ Dn
end Go.Proofs.dS
