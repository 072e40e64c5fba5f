/- A part of WalkG. No condition. -/
import Derived.Test.YthhfkhhhclmimaaGreatDoorM07
import Derived.Test.YthhfkhhhclmimaaGreatDoorM22
set_option linter.unusedVariables false
set_option linter.unusedSimpArgs false
open Go.Proofs.Tryz
set_option maxRecDepth 10000
set_option maxHeartbeats 2000000
namespace Go.Proofs.dS
open Go Go.RowKit Go.Proofs.K
def Dt(N:Nat->Prop)(r:List dr × Int)(w:World)(e:Ending)(w':World):Prop :=
 ∃ a c,e=.returned (.tuple #[.slice a r.1.length c,I_ r.2])/\my N w' a r.1.length c r.1/\K_ w w'
theorem xA{B:Nat}{a3 a:Option Addr}(s:Nat)(c:∀ g,dF a3=some g->B<=g)(d:B<=s)(l:dF a=dF a3\/dF a=some s):∀ g,dF a=some g->B<=g:=by
 intro g b;rcases l with e | e
 . exact c g (e ▸ b)
 . rw[e]at b
   cases b;exact d
def oq(Q:List (Int × Int)):List Value:=Q.flatMap fun p=>[I_ p.1,I_ p.2]
theorem Hz(Q R:List (Int × Int)):oq (Q++R)=oq Q++oq R:=by simp[oq]
theorem xB(Q:List (Int × Int))(i:Nat)(h:i<Q.length):(oq Q)[i*2]?=some (I_ Q[i].1)/\(oq Q)[i*2+1]?=some (I_ Q[i].2):=by
 induction Q generalizing i with
 | nil=>simp at h
 | cons p Q a =>
  have e:oq (p :: Q)=[I_ p.1,I_ p.2]++oq Q:=rfl;rw[e];cases i with
  | zero=>exact⟨rfl,rfl⟩
  | succ i =>
   have:=a i (by simpa using h);refine⟨?_,?_⟩
   . rw[List.getElem?_append_right (by simp;omega),show(i+1)*2-[Value.int .i64 p.1,I_ p.2].length=i*2 by simp;omega];exact this.1
   . rw[List.getElem?_append_right (by simp;omega),show(i+1)*2+1-[Value.int .i64 p.1,I_ p.2].length=i*2+1 by simp;omega];exact this.2
theorem Fh:(prog.info? 191).map (fun i=>(i.zero,i.size,i.bytes))=some (some (.agg #[I_ 0,I_ 0]),2,16):=by kernel_rfl
def yZ(B:Nat)(w:World)(a:Option Addr)(c:Nat)(Q:List (Int × Int)):Prop:=fp w 191 2 a Q.length c (oq Q)/\∀ g,dF a=some g->B<=g
theorem yZ.ct{B:Nat}{w w':World}{a:Option Addr}{c:Nat}{Q:List (Int × Int)}(h:yZ B w a c Q){S:Nat->Prop}(k:cq S w w')(b:∀ g,dF a=some g->¬ S g):yZ B w' a c Q:=⟨h.1.ct k b,h.2⟩
theorem yZ.ie{B:Nat}{w w':World}{a b:Option Addr}{c d:Nat}{Q:List (Int × Int)}(h:yZ B w a c Q)(p:Int × Int)(o:fp w' 191 2 b (Q.length+1) d (oq Q++[I_ p.1,I_ p.2]))(k:Nat)(l:dF b=dF a\/dF b=some k)(e:B<=k):yZ B w' b d (Q++[p]):=by
 refine⟨?_,xA _ h.2 e l⟩;rw[List.length_append,Hz];exact o
theorem yZ.at{N:Nat->Prop}{B:Nat}{w:World}{a:Option Addr}{c:Nat}{Q:List (Int × Int)}(h:yZ B w a c Q)(f:∀ g,B<=g->N g):oM N w a Q.length c Q:=by
 rcases h.1.jK with⟨rfl,n,rfl,p⟩ | ⟨g,cur,rfl,m,j,k,l,o,q⟩
 . exact⟨rfl,by omega,fun g b=>(by cases b),fun i d=>absurd d (by omega)⟩
 . refine⟨rfl,j,fun e b=>⟨f e (h.2 e b),h.1.lt b⟩,fun i d=>⟨g,0,rfl,?_,?_⟩⟩
   . rw[Nat.zero_add];exact h.1.cell (xB Q i d).1
   . rw[Nat.zero_add];exact h.1.cell (xB Q i d).2
theorem xC(w:World)(x y:Int):∀ j u,[Value.int .i64 x,I_ y][j]?=some u->(w.alloc (.cells #[I_ x,I_ y] 191)).cell? ((⟨w.heap.size,0,none⟩:Addr).add j)=some u:=by
 intro j u a;rw[Addr.add_lit,Nat.zero_add];refine cp (cx _ _) ?_;simpa using a
theorem AM(x y:Int):∀ u ∈ [Value.int .i64 x,I_ y],u.oneCell'=true:=by
 intro u a;simp at a;rcases a with rfl | rfl <;> rfl
theorem Lx(L:List dr)(c:Nat)(a:Int)(h:∀ j,j<L.length->Ref.oF L c a j=false):(List.range L.length).any (Ref.oF L c a)=false:=by
 rw[List.any_eq_false];intro j b;rw[h j (by simpa using b)];simp
theorem vU(L:List dr)(c:Nat)(a:Int)(j:Nat)(b:j<L.length)(h:Ref.oF L c a j=true):(List.range L.length).any (Ref.oF L c a)=true :=
 List.any_eq_true.2 ⟨j,by simpa using b,h⟩
theorem O'(N:Nat->Prop)(w:World)(a:Option Addr)(n c:Nat)(L:List dr)(k:Nat)(b xt:Int)(ad:my N w a n c L)(aN:Ref.Ok L)(hN:∀ g,w.heap.size<=g->N g)(W:k<L.length)(hl:L.length<=1000000)(ho:∀ x ∈ L,x.own.length<=1000000) :
 Calls prog 98 #[.slice a n c,I_ k,I_ b,I_ xt] w (Dt N (Ref.set L k b xt) w):=by
 have H:=h_ ad;have aj:=h_ aN;have HO:=h_ ho;obtain rfl:n=L.length:=ad.1;clear ad aN ho;have Y:Hid (Ref.set L k b xt=if b<1 then(L,-256)else if(List.range L.length).any (Ref.oF L k b)then(L,-2051)else(Ref.put L k b xt,0)):=rfl;generalize Ref.set L k b xt=r at Y |-;by_cases hs:b<1
 . have d:=Y.out
   rw[if_pos hs]at d;have R:=h_ d;clear d;go_enter func98,ntmps98;go_wp2;go_ret2;exact⟨a,c,by rw[R.out];rfl,by rw[R.out];exact H.out,cq.refl _ _⟩
 . have d:=Y.out
   rw[if_neg hs]at d;have bf:1<=b:=by omega
   have R:=h_ d;clear d hs Y;go_enter func98,ntmps98;go_wp2_with fail
   go_loopw [10] (fun B wr=>∃ j:Nat,B=I_ j/\j<=L.length/\(∀ i,i<j->Ref.oF L k b i=false)/\K_ w wr)
    (fun B _=>L.length-(intOf B).toNat)
   case atStart=>exact⟨0,rfl,by omega,fun i s=>absurd s (Nat.not_lt_zero _),cq.refl _ _⟩
   case round =>
    obtain⟨j,rfl,hj,l,aK⟩:=hrel;have O:=h_ l;have P:=h_ aK;clear l aK;by_cases G:j<L.length
    . have T:Ref.oF L k b j=(Ref.jA L j k b && (Ref.dH L j b).isNone && decide ((Ref.get L j).cy<=Ref.seen L j)):=rfl
      rw[Ref.get_at L j G]at T;have hH:=h_ (Kk N wr a L.length c L j k b (H.out.ct P.out (fun _ _=>id)) aj.out (by omega) (by omega) hl HO.out);obtain⟨g,oa,on,oc,rfl,am,aq,ak,al,ab,ac,af,_⟩:=(H.out.get G);have C2:=h_ ab;generalize aY:L[j].cy=av at T C2;generalize Ref.jA L j k b=bh at T hH;have Z:=h_ T;clear T af ak al ab ac aY am;go_wp2_with fail;refine hH.out.mono ?_;rintro e w2 ⟨rfl,k2⟩;have K2:=h_ (P.out.trans k2);clear k2;have hW:=h_ (ra N w2 (some ⟨g,0,none⟩) L.length c L j b (H.out.ct K2.out (fun _ _=>id)) aj.out (by omega) (by omega) hl HO.out);generalize Ref.dH L j b=wk at Z hW;go_wp2_with fail;refine hW.out.mono ?_;rintro e m ⟨rfl,X⟩;have o:=h_ (K2.out.trans X);have c2:=o.out.cell C2.out id;clear X;have hS:=h_ (fun (i:fP m)=>Kl N i.1 (some ⟨g,0,none⟩) L.length c L j (H.out.ct (o.out.trans i.2) (fun _ _=>id)) aj.out (by omega) (by omega) hl HO.out);cases bh with
      | false =>
       have U:Ref.oF L k b j=false:=by rw[Z.out];rfl
       have E:=h_ U;clear U;cases wk with
       | none =>
        unfold rF;go_wp2_with fail;go_quiet (fail);go_wp2;go_roundw;case rel =>
         exact⟨j+1,by go_num,by omega,fun i s=>(by
          by_cases e:i=j
          . rw[e];exact E.out
          . exact O.out i (by omega)),o.out.trans (cq.drewN _ _ _)⟩
        case measure=>simp[intOf];omega
       | some y =>
        unfold rF;go_wp2_with fail;go_quiet (fail);go_wp2;go_roundw;case rel =>
         exact⟨j+1,by go_num,by omega,fun i s=>(by
          by_cases e:i=j
          . rw[e];exact E.out
          . exact O.out i (by omega)),o.out.trans (cq.drewN _ _ _)⟩
        case measure=>simp[intOf];omega
      | true =>
       cases wk with
       | some y =>
        have U:Ref.oF L k b j=false:=by rw[Z.out];rfl
        have E:=h_ U;clear U;unfold rF;go_wp2_with fail;go_quiet (fail);go_wp2;go_roundw;case rel =>
         exact⟨j+1,by go_num,by omega,fun i s=>(by
          by_cases e:i=j
          . rw[e];exact E.out
          . exact O.out i (by omega)),o.out.trans (cq.drewN _ _ _)⟩
        case measure=>simp[intOf];omega
       | none =>
        have a6:=fun (i:fP m)=>i.2.cell c2 id;have A:Ref.oF L k b j=decide (av<=(Ref.jn L j []).length):=by rw[Z.out];rfl
        generalize (Ref.jn L j []).length=sn at A hS;unfold rF;by_cases an:av<=(sn:Int)
        . rw[decide_eq_true an]at A
          have aP:=h_ (vU L k b j G A);clear A;go_wp2_with fail;refine Go.Proofs.K.cW ?iX ?iY ?_;case iX=>kernel_rfl
          case iY=>kernel_rfl
          repeat ((with_reducible refine wpQuiet_step ?_);intro z f;go_simp;first | ((with_reducible refine f _ ?_);clear f z) | (refine f _ ?_;clear f z) | (apply Exists.intro;refine⟨fun _=>?_,f _ ?_⟩;(exact K.gO (hS.out _));clear f z))
          with_reducible refine wpQuiet_nil ?_
          intro _ ar;obtain⟨⟨wq,kq⟩,au⟩:=ar;subst au;have F:=h_ (o.out.trans kq);all_goals
           go_wp2;go_ret2;have d:=R.out;rw[if_pos aP.out]at d;exact⟨_,_,by rw[d];rfl,by rw[d];exact H.out.ct F.out (fun _ _=>id),F.out⟩
        . rw[decide_eq_false an]at A
          have E:=h_ A;have ba:(sn:Int)<av:=by omega
          clear A an;go_wp2_with fail;refine Go.Proofs.K.cW ?nM ?nO ?_;case nM=>kernel_rfl
          case nO=>kernel_rfl
          repeat ((with_reducible refine wpQuiet_step ?_);intro z f;go_simp;first | ((with_reducible refine f _ ?_);clear f z) | (refine f _ ?_;clear f z) | (apply Exists.intro;refine⟨fun _=>?_,f _ ?_⟩;(exact K.gO (hS.out _));clear f z))
          with_reducible refine wpQuiet_nil ?_
          intro _ ar;obtain⟨⟨wq,kq⟩,au⟩:=ar;subst au;have F:=h_ (o.out.trans kq);all_goals
           go_wp2;go_roundw;case rel =>
            exact⟨j+1,by go_num,by omega,fun i s=>(by
             by_cases e:i=j
             . rw[e];exact E.out
             . exact O.out i (by omega)),F.out⟩
           case measure=>simp[intOf];omega
    . have ao:j=L.length:=by omega
      subst ao;have aE:=Lx L k b O.out;have d:=R.out;rw[if_neg (by rw[aE];simp)]at d;have aA:=h_ d;clear d aE;have aD:=H.out.ct P.out (fun _ _=>id);obtain⟨g,oa,on,oc,rfl,am,aq,ak,al,ab,ac,af,bc⟩:=aD.get W;obtain⟨hn,V,hV⟩:=aD;have HV:=h_ hV;have aR:(V.flatMap RC.cells).length=L.length*4:=by rw[Kh,hV.len]
      have aF:=(hV.ct (dR wr (.cells #[] 194)) (fun _ _=>id)).cells;have aW:=OD V;have C3:=h_ ac;have ai:=h_ af;have aM:fp (wr.alloc (.cells #[] 194)) 194 4 (some ⟨wr.heap.size,0,none⟩) 0 0 []:=World.ownsRow_made wr _ _ (Nat.zero_le _) (Nat.zero_le _) rfl;clear hV hn ak al ab ac af am
      go_wp2_with (first
       | (at_builtin;refine eB rfl _ _ 99 rfl 194 _ 4 48 underlying99 Km rfl (by decide) (some ⟨wr.heap.size,0,none⟩) 0 0 [] rfl aM ⟨g,0,none⟩ L.length c (V.flatMap RC.cells) rfl aR aF aW ?d3 ?d4 ?_))
      case d3=>unfold maxLen;omega
      case d4=>omega
      intro a3 c3 m o3 X l3;have hw:w.heap.size<=wr.heap.size:=P.out.size;have aO:fp m 194 4 a3 L.length c3 (V.flatMap RC.cells):=o3;have kA:=dR wr (.cells #[] 194);have I:=kA.dh X (fun i s e=>absurd (show wr.heap.size=i from Option.some.inj e) (by omega));have o:=h_ (P.out.trans I);have N3:Hid (∀ g,dF a3=some g->wr.heap.size<=g):=xA (a3:=some ⟨wr.heap.size,0,none⟩) _ (fun g e=>Nat.le_of_eq (Option.some.inj e)) (Nat.le_succ _) l3;have O3:=h_ aO;have aV:=HO.out L[k] (List.getElem_mem W);obtain rfl:on=L[k].own.length:=ai.out.1;have aU:=ai.out.2.1;have aw:=h_ (I.cell C3.out id);have ay:=h_ (ai.out.ct I (fun _ _=>id));have aJ:Ref.get L k=L[k]:=Ref.get_at L k W;have aa:Hid (Ref.put L k b xt=L.set k { Ref.get L k with own:=(Ref.get L k).own.filter (fun p=>p.1≠b)++[(b,xt)] }):=rfl;rw[aJ]at aa;have aQ:=h_ I.size;obtain⟨a4,a1⟩:∃ x,x=wr:=⟨_,rfl⟩;have ax:=h_ I;rw[<- a1]at N3 HV aQ ax hw;generalize t:L[k]=x at aa aw ay aV aU;have a2:=t;clear t aJ o3 aO kA I X l3 aF aM;go_wp2_with fail;have bj:w.heap.size<=m.heap.size:=o.out.size
      go_loopw [16,17] (fun qv B wr=>∃ (Q:List (Int × Int)) (J:Option Addr) (M:Nat) (i:Nat),qv=.slice J Q.length M/\B=I_ i/\i<=x.own.length/\Q.length<=i/\yZ m.heap.size wr J M Q/\K_ m wr /\
       Q++(x.own.drop i).filter (fun p=>p.1≠b)=x.own.filter (fun p=>p.1≠b))
       (fun _ B _=>x.own.length-(intOf B).toNat)
      case atStart=>exact⟨[],none,0,0,rfl,rfl,by omega,by simp,⟨fp.nil _ _ _,fun g hg=>(by cases hg)⟩,cq.refl _ _,rfl⟩
      case round =>
       obtain⟨Q,J,M,i,rfl,rfl,s,aX,hq,ap,l⟩:=hrel;have u:=h_ hq;have v:=h_ ap;have a7:=ap.cell aw.out id;clear hq ap;by_cases G:i<x.own.length
       . have aI:x.own.drop i=x.own[i] :: x.own.drop (i+1):=List.drop_eq_getElem_cons G
         rw[aI]at l;obtain⟨WI,oo,rfl,aB,aC⟩:=ay.out.2.2.2 i G;have d0:=v.out.cell aB id;have d1:=v.out.cell aC id;clear aI aB aC;generalize x.own[i]=y at d0 d1 l;obtain⟨q,D⟩:=y;simp only at d0 d1 l;by_cases e:q=b
         . have e':(q != b)=false:=by simp[e]
           have S:Q++(x.own.drop (i+1)).filter (fun p=>p.1≠b)=x.own.filter (fun p=>p.1≠b):=by
            rw[<- l,List.filter_cons_of_neg (by simp[e])]
           have ah:=h_ S;clear l S e;go_wp2;go_roundw;case rel=>exact⟨Q,J,M,i+1,rfl,by go_num,by omega,by omega,u.out,v.out,ah.out⟩
           case measure=>simp[intOf];omega
         . have e':(q != b)=true:=by simp[e]
           have S:(Q++[(q,D)])++(x.own.drop (i+1)).filter (fun p=>p.1≠b)=x.own.filter (fun p=>p.1≠b):=by
            rw[<- l,List.filter_cons_of_pos (by simp[e])];simp
           have ah:=h_ S;clear l S e
           go_wp2_with (first
            | (at_builtin;refine eB rfl _ _ 192 rfl 191 _ 2 16 underlying192 Fh rfl (by decide) J Q.length M (oq Q) rfl (u.out.ct (dR _ _) (fun _ _=>id)).1 ⟨wr.heap.size,0,none⟩ 1 1 [I_ q,I_ D] rfl rfl (xC wr q D) (AM q D) ?f3 ?f4 ?_))
           case f3=>unfold maxLen;omega
           case f4=>omega
           intro a' c' w4 o4 k4 l4;have a0:m.heap.size<=wr.heap.size:=v.out.size;have C:=dR wr (.cells #[I_ q,I_ D] 191);have Q4:=h_ ((u.out.ct C (fun _ _=>id)).ie (q,D) o4 _ l4 (by omega));have F:=h_ ((v.out.trans C).dh k4 (fun i s e=>absurd (u.out.2 i e) (by omega)));clear C o4 k4 l4;go_wp2;go_roundw;case rel=>exact⟨Q++[(q,D)],a',c',i+1,by rw[List.length_append];rfl,by go_num,by omega,by rw[List.length_append];simp;omega,Q4.out,F.out,ah.out⟩
           case measure=>simp[intOf];omega
       . have ao:i=x.own.length:=by omega
         subst ao;rw[List.drop_length,List.filter_nil,List.append_nil]at l;obtain rfl:Q=x.own.filter (fun p=>p.1≠b):=l;have aS:=h_ (Eq.refl (x.own.filter (fun p=>p.1≠b)));generalize x.own.filter (fun p=>p.1≠b)=Q at aa u aX;clear aS;obtain⟨h,cur,rfl,aH,be,aG⟩:∃ h cur,a3=some ⟨h,0,none⟩/\m.heap[h]?=some (.cells cur 194 (0,0))/\L.length<=c3/\cur.size=c3*4:=by
          rcases O3.out.jK with⟨t,h0,_⟩ | ⟨g',cur,t,hh,aq,a9,aG,bg,bk⟩
          . omega
          . exact⟨g',cur,t,hh,aq,aG⟩
         have bb:h<m.heap.size:=cA aH;have aT:a4.heap.size<=h:=N3.out h rfl;have bd:(k:Int)<L.length:=by omega
         have a8:Q.length<=1000000:=by omega
         have aZ:k<V.length:=by rw[HV.out.len];exact W
         clear aH
         go_wp2_with (first
          | (at_builtin;refine eB rfl _ _ 192 rfl 191 _ 2 16 underlying192 Fh rfl (by decide) J Q.length M (oq Q) rfl (u.out.ct (dR _ _) (fun _ _=>id)).1 ⟨wr.heap.size,0,none⟩ 1 1 [I_ b,I_ xt] rfl rfl (xC wr b xt) (AM b xt) ?f3 ?f4 ?_))
         case f3=>unfold maxLen;omega
         case f4=>omega
         intro a5 c5 w5 o5 k5 l5;have a0:m.heap.size<=wr.heap.size:=v.out.size;have C:=dR wr (.cells #[I_ b,I_ xt] 191);have q5:=(u.out.ct C (fun _ _=>id)).ie (b,xt) o5 _ l5 (by omega);have ag:=(v.out.trans C).dh k5 (fun i s e=>absurd (u.out.2 i e) (by omega));have O5:=O3.out.ct ag (fun _ _=>id);have d3:=O5.cell (Ki V k aZ).2.2.2;have df:w5.frozen? ⟨h,k*4+3,none⟩=false:=by
          rcases O5.jK with⟨t,_⟩ | ⟨g',cur,t,hh,_⟩
          . cases t
          . cases t;exact cB hh
         have ae:=HV.out.Rj (ax.out.trans ag) O5 (hN h (by omega)) aT W (q5.at (fun g ad=>hN g (by omega))) (fun e=>by have:=q5.2 h e;omega);have K5:=h_ (o.out.trans ag);obtain⟨bi,ae⟩:=ae;have HL:=h_ ae;have e1:(Q++[(b,xt)]).length=Q.length+1:=by simp
         rw[e1]at HL;rw[a2]at HL;have az:=aa.out;have K6:Hid (K_ w (w5.setCell ⟨h,k*4+3,none⟩ (.slice a5 (Q.length+1) c5))):=K5.out.dW _ _ (show w.heap.size<=h by omega);clear ae o5 k5 l5 q5 ag C O5;go_wp2;go_ret2;have aL:(Ref.put L k b xt).length=L.length:=by rw[az];simp
         refine⟨some ⟨h,0,none⟩,c3,?_,?_,K6.out⟩
         . rw[aA.out,aL];rfl
         . rw[aA.out,aL,az]
           exact⟨by simp,_,HL.out⟩
end Go.Proofs.dS
