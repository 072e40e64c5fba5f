/- A part of WalkG. No condition. -/
import Derived.Test.YthhfkhhhclmimaaGreatDoorM06
set_option linter.unusedVariables false
set_option linter.unusedSimpArgs false
open Go.Proofs.Tryz
set_option maxRecDepth 10000
namespace Go.Proofs.dS
open Go Go.RowKit Go.Proofs.K
theorem uP:Go.Maps.Keyed prog 2:=Go.Maps.int_keyed underlying2
theorem GR(w:World):(zeroValue 4).run prog w=.ok (.bool false) w:=by kernel_rfl
def qY(w:World)(b:Nat)(L:List Int):Prop:=∃ D:DataW Unit,w.ownsMap Tryz.prog 2 (plainElem Tryz.prog 4) b L.length D/\Go.Maps.IsMap D/\∀ a:Int,D.atKey (.int .i64 a) (.lit (.bool false))=.lit (.bool (decide (a ∈ L)))
theorem qY.kf(w:World):qY (w.alloc (.map #[] 0)) w.heap.size [] :=
 ⟨.map [],World.ownsMap_made _ _ _ _,Go.Maps.isMap_empty,fun a=>rfl⟩
theorem qY.lt{w:World}{b:Nat}{L:List Int}(h:qY w b L):b<w.heap.size:=by
 obtain⟨D,h,_⟩:=h;exact h.lt
theorem qY.ct{w w':World}{b:Nat}{L:List Int}(h:qY w b L){S:Nat->Prop}(k:cq S w w')(f:¬ S b):qY w' b L:=by
 obtain⟨D,⟨c,a,e,r⟩,d⟩:=h;exact⟨D,⟨c,a,k.heap e f,r⟩,d⟩
theorem wf_i64{a:Int}(b : -9223372036854775808<=a)(c:a<=9223372036854775807):(Lit.int .i64 a).wf=true:=WalkArith.wf_i64 (by omega)
theorem qY.look{w:World}{b:Nat}{L:List Int}(h:qY w b L)(a:Int)(d : -9223372036854775808<=a)(e:a<=9223372036854775807) :
 (Instr.lookup 412 (.map (some b)) (I_ a) false).run prog w=.ok (.bool (decide (a ∈ L))) w:=by
 obtain⟨D,h,_,f⟩:=h;obtain⟨v,i,g,c⟩:=h.lookup uP underlying412 (GR w) (plainElem_bool underlying4 false) (Go.Maps.keyOf_int_mk underlying2 (wf_i64 d e));rw[g];rw[f a]at c;unfold plainElem at c;rw[underlying4]at c;cases v <;> simp at c
 rw[c.1]
theorem qY.put{w:World}{b:Nat}{L:List Int}(h:qY w b L)(a:Int)(i : -9223372036854775808<=a)(j:a<=9223372036854775807)(p:L.length<10000000) :
 ∃ w',(Instr.mapUpdate 412 (.map (some b)) (.int .i64 a) (.bool true)).run Tryz.prog w=.ok () w'/\qY w' b (a :: L)/\cq (fun k=>k=b) w w':=by
 obtain⟨D,h,g,l⟩:=h;have f:=Go.Maps.keyOf_int_mk (P:=Tryz.prog) (k:=2) Tryz.underlying2 (wf_i64 i j);obtain⟨w',o,n,m⟩:=h.update uP Tryz.underlying412 (by unfold maxLen;omega) f (plainElem_bool Tryz.underlying4 true);refine⟨w',o,⟨D.put (.int .i64 a) (.lit (.bool true)),n,g.put _ _,fun c=>?_⟩,cq.grown m (fun k _ e=>by cases e;rfl)⟩;by_cases d:c=a
 . subst d
   rw[Go.Maps.atKey_put_same g (uP.key f)];simp
 . rw[Go.Maps.atKey_put_other (fun e=>d (by cases e;rfl)),l c]
   simp[d]
set_option maxHeartbeats 2000000
def gJ.Bd(c:gJ):Prop:=∀ f,-9223372036854775808<=c.sU f/\c.sU f<=9223372036854775807
theorem Kg(m:Mem)(k:Nat)(a d:Int)(h:d<=9223372036854775807):∀ c ∈ Class.fV m k a d,c.Bd:=by
 induction k generalizing a d with
 | zero=>simp[Class.fV]
 | succ k e =>
  intro c b;rw[Class.fV]at b;split at b
  . rename_i g
    split at b
    . rcases List.mem_cons.1 b with rfl | b
      . unfold Class.cT
        split
        . intro f
          match f with
          | 0=>simp[gJ.sU]
          | 1=>simp[gJ.sU]
          | 2=>simp[gJ.sU]
          | 3=>simp[gJ.sU]
          | _+4=>simp[gJ.sU]
        . intro f
          match f with
          | 0=>simp only[gJ.sU];omega
          | 1=>exact m.fh _
          | 2=>exact m.fh _
          | 3=>exact m.fh _
          | _+4=>exact m.fh _
      . exact e _ _ (by omega) c b
    . cases b
  . cases b
theorem Rh(m:Mem)(b:Int)(d:m.size<=4194304):∀ c ∈ Class.all m b,c.Bd:=by
 intro c a;unfold Class.all at a;split at a
 . exact Kg m _ _ m.size (by omega) c (by simpa[Class.dH] using a)
 . cases a
theorem An(w:World)(b bb:Nat)(m:Mem)(I a R:Int)(h:dY w b bb m) :
 Calls prog 386 #[cD b,I_ I,I_ a,I_ R] w (EV (Class.lh m I a R) w):=by
 have az:=@run_makeMap prog;have av:=h.le;have aw:=Class.qM m I;have ad:=Rh m I av;have HD:Hid (Class.lh m I a R=Class.km m a R (Class.all m I) []):=rfl;generalize Class.lh m I a R=r at HD |-;have hA:=h_ fun w h=>sj w b bb m I h;generalize Class.all m I=A at HD aw ad hA;have ao:=h_ ad;clear ad;go_enter func386,ntmps386;go_wp2_with fail;refine(hA.out _ (by exact h.dC _)).mono ?_;rintro e w1 ⟨sa,ca,rfl,oa,l⟩;have KA:=(dR w (.map #[] 0)).trans l;have SA:=(qY.kf w).ct l id;have aB:w.heap.size+1<=w1.heap.size:=by
  have:=l.size;rw[World.size_alloc]at this;exact this
 clear l;go_wp2_with fail
 go_loopw [9,21] (fun ov iv wr=>∃ (L:List gJ) (z:Option Addr) (c:Nat) (j:Nat) (C:List Int),ov=.slice z L.length c/\iv=I_ j/\j<=A.length/\L.length<=j/\C.length<=j /\
  gM w wr z c L/\gM (w.alloc (.map #[] 0)) wr sa ca A/\qY wr w.heap.size C/\dY wr b bb m/\K_ w wr /\
  (∀ g,dF z=some g->g≠w.heap.size/\dF sa≠some g)/\L++Class.km m a R (A.drop j) C=r)
  (fun _ iv _=>A.length-(intOf iv).toNat)
 case atStart=>exact⟨[],none,0,0,[],rfl,rfl,by omega,by simp,by simp,⟨fp.nil _ _ _,by simp[dF]⟩,oa,SA,h.ct KA id id,KA,by simp[dF],by rw[HD.out];rfl⟩
 case round =>
  obtain⟨L,z,c,j,C,rfl,rfl,hj,ac,ag,H,v,hs,hm,U,s,hL⟩:=hrel;by_cases af:j<A.length
  . obtain⟨G,rfl,aA,F⟩:=v.get af
    have ai:A.drop j=A[j] :: A.drop (j+1):=List.drop_eq_getElem_cons af;have aa:=ao.out A[j] (List.getElem_mem af);have f:=hL;rw[ai,Class.km]at f;clear ai;generalize A[j]=x at F f aa;have F0:=F 0 (by omega);have F1:=F 1 (by omega);have F2:=F 2 (by omega);have F3:=F 3 (by omega);have F4:=F 4 (by omega);simp only[gJ.sU,Nat.add_zero]at F0 F1 F2 F3 F4;have d:=h_ fun w h=>EN w b bb m x.table R h;generalize dj.get m x.table R=q at d f;obtain⟨⟨y1,y2,y3⟩,n,ay⟩:=q;unfold wD jz.val at d;simp only at d f;have J:=f;obtain⟨p0,p1⟩:=aa 1;obtain⟨q0,q1⟩:=aa 0;simp only[gJ.sU]at p0 p1 q0 q1;clear f F aa hL;have ap:=hm.dC (.cells #[I_ x.cM,I_ x.cE,I_ x.size,I_ x.table,I_ x.iB] 214);go_wp2_with fail;refine(d.out _ ap).mono ?_;rintro e V ⟨rfl,k2⟩;have P:=k2.heap (cx wr _) id;have ax:wr.heap.size<V.heap.size:=cA P;have c0:=cp (i:=0) P rfl;have c1:=cp (i:=1) P rfl;have c2:=cp (i:=2) P rfl;have c3:=cp (i:=3) P rfl;have c4:=cp (i:=4) P rfl;have o:=((dR wr (.cells #[I_ x.cM,I_ x.cE,I_ x.size,I_ x.table,I_ x.iB] 214)).trans k2).trans (dR V (.cells #[I_ y1,I_ y2,I_ y3] 279));have S:=hs.ct o id;have ae:=S.look x.cE p0 p1;have ab:=h_ ((dp V (.cells #[I_ y1,I_ y2,I_ y3] 279) ax).trans P);have aC:w.heap.size<wr.heap.size:=hs.lt;clear P k2;by_cases B:x.cM=a
    . have aq:(x.cM == a)=true:=by simp[B]
      have f:=J;rw[if_pos (.inl B)]at f;clear B ae;obtain⟨p,am,s3,t⟩:=S.put x.cM q0 q1 (by omega);have k:=t.heap ab.out (show ¬ wr.heap.size=w.heap.size by omega);have d0:=cp (i:=0) k rfl;have d1:=cp (i:=1) k rfl;have d2:=cp (i:=2) k rfl;have d3:=cp (i:=3) k rfl;have d4:=cp (i:=4) k rfl;have al:wr.heap.size<p.heap.size:=cA k;have M:=(H.ct o (fun _ _=>id)).ct t (fun g d e=>(s g d).1 e);have W:=((v.ct o (fun _ _=>id)).ct t (fun g d e=>by have:=v.2 g d;rw[World.size_alloc]at this;omega));have D:=h_ f;clear f k
      go_wp2_with (first
       | (at_builtin;refine eB rfl _ _ 211 rfl 214 _ 5 40 underlying211 tU rfl (by decide) z L.length c (oy L) rfl (M.alloc _).1 ⟨p.heap.size,0,none⟩ 1 1 x.cells rfl rfl (qW p x) (tV x) ?c3 ?c4 ?_))
      case c3=>unfold maxLen;omega
      case c4=>omega
      intro N c' w4 Q u y;have Z:=(M.ie x Q _ y (by omega));have ak:G<wr.heap.size:=v.1.lt rfl;have l:=dR p (.cells #[I_ x.cM,I_ x.cE,I_ x.size,I_ x.table,I_ x.iB] 214);have an:w.heap.size<=V.heap.size:=by omega
      have K:=((((U.trans o).dh t (fun i hi e=>by have O:i=w.heap.size:=e;omega)).trans l).dh u (fun i hi e=>absurd (H.2 i e) (by omega)));have X:=(W.ct l (fun _ _=>id)).ct u (fun g d e=>(s g e).2 d);have S4:=(s3.ct l id).ct u (fun e=>(s _ e).1 rfl);have Y:Hid (∀ g,dF N=some g->g≠w.heap.size/\dF (some (⟨G,0,none⟩:Addr))≠some g):=by
       intro g d;rcases y with e | e
       . exact s g (e ▸ d)
       . rw[e]at d
         have aj:p.heap.size+1=g:=Option.some.inj d;refine⟨by omega,fun O=>?_⟩;have ah:G=g:=Option.some.inj O;omega
      clear Q u y l;go_wp2;go_roundw;case rel =>
       refine⟨L++[x],N,c',j+1,x.cM :: C,by rw[List.length_append];rfl,by go_num,by omega,by simpa using ac,by simpa using ag,Z,X,S4,h.ct K id id,K,Y.out,?_⟩;rw[<- D.out,List.append_assoc];rfl
      case measure=>simp[intOf];omega
    . have aq:(x.cM == a)=false:=by simp[B]
      by_cases E:x.cE ∈ C
      . rw[decide_eq_true E]at ae
        cases ay with
        | false =>
         have f:=J;rw[if_pos (.inr ⟨E,by simp⟩)]at f;clear B E;obtain⟨p,am,s3,t⟩:=S.put x.cM q0 q1 (by omega);have k:=t.heap ab.out (show ¬ wr.heap.size=w.heap.size by omega);have d0:=cp (i:=0) k rfl;have d1:=cp (i:=1) k rfl;have d2:=cp (i:=2) k rfl;have d3:=cp (i:=3) k rfl;have d4:=cp (i:=4) k rfl;have al:wr.heap.size<p.heap.size:=cA k;have M:=(H.ct o (fun _ _=>id)).ct t (fun g d e=>(s g d).1 e);have W:=((v.ct o (fun _ _=>id)).ct t (fun g d e=>by have:=v.2 g d;rw[World.size_alloc]at this;omega));have D:=h_ f;clear f k
         go_wp2_with (first
          | (at_builtin;refine eB rfl _ _ 211 rfl 214 _ 5 40 underlying211 tU rfl (by decide) z L.length c (oy L) rfl (M.alloc _).1 ⟨p.heap.size,0,none⟩ 1 1 x.cells rfl rfl (qW p x) (tV x) ?c3 ?c4 ?_))
         case c3=>unfold maxLen;omega
         case c4=>omega
         intro N c' w4 Q u y;have Z:=(M.ie x Q _ y (by omega));have ak:G<wr.heap.size:=v.1.lt rfl;have l:=dR p (.cells #[I_ x.cM,I_ x.cE,I_ x.size,I_ x.table,I_ x.iB] 214);have an:w.heap.size<=V.heap.size:=by omega
         have K:=((((U.trans o).dh t (fun i hi e=>by have O:i=w.heap.size:=e;omega)).trans l).dh u (fun i hi e=>absurd (H.2 i e) (by omega)));have X:=(W.ct l (fun _ _=>id)).ct u (fun g d e=>(s g e).2 d);have S4:=(s3.ct l id).ct u (fun e=>(s _ e).1 rfl);have Y:Hid (∀ g,dF N=some g->g≠w.heap.size/\dF (some (⟨G,0,none⟩:Addr))≠some g):=by
          intro g d;rcases y with e | e
          . exact s g (e ▸ d)
          . rw[e]at d
            have aj:p.heap.size+1=g:=Option.some.inj d;refine⟨by omega,fun O=>?_⟩;have ah:G=g:=Option.some.inj O;omega
         clear Q u y l;go_wp2;go_roundw;case rel =>
          refine⟨L++[x],N,c',j+1,x.cM :: C,by rw[List.length_append];rfl,by go_num,by omega,by simpa using ac,by simpa using ag,Z,X,S4,h.ct K id id,K,Y.out,?_⟩;rw[<- D.out,List.append_assoc];rfl
         case measure=>simp[intOf];omega
        | true =>
         by_cases T:y3=x.cM
         . have ar:(y3 == x.cM)=true:=by simp[T]
           have f:=J;rw[if_neg (by simp[B,T])]at f;clear B E T;have D:=h_ f;clear f;go_wp2;go_roundw;case rel =>
            refine⟨L,z,c,j+1,C,rfl,by go_num,by omega,by omega,by omega,H.ct o (fun _ _=>id),v.ct o (fun _ _=>id),S,hm.ct o id id,U.trans o,s,D.out⟩
           case measure=>simp[intOf];omega
         . have ar:(y3 == x.cM)=false:=by simp[T]
           have f:=J;rw[if_pos (.inr ⟨E,by simp[T]⟩)]at f;clear B E T;obtain⟨p,am,s3,t⟩:=S.put x.cM q0 q1 (by omega);have k:=t.heap ab.out (show ¬ wr.heap.size=w.heap.size by omega);have d0:=cp (i:=0) k rfl;have d1:=cp (i:=1) k rfl;have d2:=cp (i:=2) k rfl;have d3:=cp (i:=3) k rfl;have d4:=cp (i:=4) k rfl;have al:wr.heap.size<p.heap.size:=cA k;have M:=(H.ct o (fun _ _=>id)).ct t (fun g d e=>(s g d).1 e);have W:=((v.ct o (fun _ _=>id)).ct t (fun g d e=>by have:=v.2 g d;rw[World.size_alloc]at this;omega));have D:=h_ f;clear f k
           go_wp2_with (first
            | (at_builtin;refine eB rfl _ _ 211 rfl 214 _ 5 40 underlying211 tU rfl (by decide) z L.length c (oy L) rfl (M.alloc _).1 ⟨p.heap.size,0,none⟩ 1 1 x.cells rfl rfl (qW p x) (tV x) ?c3 ?c4 ?_))
           case c3=>unfold maxLen;omega
           case c4=>omega
           intro N c' w4 Q u y;have Z:=(M.ie x Q _ y (by omega));have ak:G<wr.heap.size:=v.1.lt rfl;have l:=dR p (.cells #[I_ x.cM,I_ x.cE,I_ x.size,I_ x.table,I_ x.iB] 214);have an:w.heap.size<=V.heap.size:=by omega
           have K:=((((U.trans o).dh t (fun i hi e=>by have O:i=w.heap.size:=e;omega)).trans l).dh u (fun i hi e=>absurd (H.2 i e) (by omega)));have X:=(W.ct l (fun _ _=>id)).ct u (fun g d e=>(s g e).2 d);have S4:=(s3.ct l id).ct u (fun e=>(s _ e).1 rfl);have Y:Hid (∀ g,dF N=some g->g≠w.heap.size/\dF (some (⟨G,0,none⟩:Addr))≠some g):=by
            intro g d;rcases y with e | e
            . exact s g (e ▸ d)
            . rw[e]at d
              have aj:p.heap.size+1=g:=Option.some.inj d;refine⟨by omega,fun O=>?_⟩;have ah:G=g:=Option.some.inj O;omega
           clear Q u y l;go_wp2;go_roundw;case rel =>
            refine⟨L++[x],N,c',j+1,x.cM :: C,by rw[List.length_append];rfl,by go_num,by omega,by simpa using ac,by simpa using ag,Z,X,S4,h.ct K id id,K,Y.out,?_⟩;rw[<- D.out,List.append_assoc];rfl
           case measure=>simp[intOf];omega
      . rw[decide_eq_false E]at ae
        have f:=J;rw[if_neg (by simp[B,E])]at f;clear B E;have D:=h_ f;clear f;go_wp2;go_roundw;case rel =>
         refine⟨L,z,c,j+1,C,rfl,by go_num,by omega,by omega,by omega,H.ct o (fun _ _=>id),v.ct o (fun _ _=>id),S,hm.ct o id id,U.trans o,s,D.out⟩
        case measure=>simp[intOf];omega
  . have au:j=A.length:=by omega
    subst au;have f:=hL;rw[List.drop_length,Class.km,List.append_nil]at f;have J:=f;clear f;go_wp2;go_ret;exact⟨z,c,by rw[<- J];rfl,by rw[<- J];exact H,U⟩
theorem CQ(w:World)(b d:Nat)(m:Mem)(x:gJ)(a:Int)(g i:Nat)(h:dY w b d m)(l:w.cell? ⟨g,0,none⟩=some (cD b))(n:w.cell? ⟨i,0,none⟩=some (I_ a)) :
 Calls prog 387 #[x.val,cD g,cD i] w fun e w'=>e=.returned (.bool (!dj.tH m x.table a))/\K_ w w':=by
 unfold gJ.val;have o:=World.block_lt_of_cell? _ _ l;have p:=World.block_lt_of_cell? _ _ n;have c:=Oj _ b d m x.table a (h.dC (.cells #[I_ x.cM,I_ x.cE,I_ x.size,I_ x.table,I_ x.iB] 214));have j:=dR w (.cells #[I_ x.cM,I_ x.cE,I_ x.size,I_ x.table,I_ x.iB] 214);clear h;generalize dj.tH m x.table a=r at c |-;go_enter func387,ntmps387;go_wp2_with fail;refine c.mono ?_;rintro e q ⟨rfl,f⟩;have k:=j.trans f;clear f;go_wp2;go_ret;exact⟨rfl,k⟩
theorem CR(m:Mem)(a e:Int)(L:List gJ)(b:List Int):(Class.km m a e L b).length<=L.length:=by
 induction L generalizing b with
 | nil=>simp[Class.km]
 | cons c L d =>
  rw[Class.km];split
  . have:=d (c.cM :: b);simp;omega
  . have:=d b;simp;omega
theorem GU(w:World)(b n:Nat)(m:Mem)(o a f xt:Int)(h:dY w b n m) :
 Calls prog 268 #[cD b,I_ o,I_ a,I_ f,I_ xt] w (gV b n (Class.set m o a f xt) w):=by
 have au:∀ (X:Fn) (V U:Array Value) (w:World),(Instr.makeFunc X V U).run prog w=.ok (.func X V U) w:=fun _ _ _ _=>rfl;have ar:=h.le;have ao:=h.lt.2;have al:(Class.lh m o a f).length<=m.size:=Nat.le_trans (CR m a f _ _) (Class.qM m o)
 have t:Hid (Class.set m o a f xt=if Class.lh m o a f=[] then(m,-2048)
  else if f<1 then(m,-256)
  else if(Class.lh m o a f).any (fun c=>!dj.tH m c.table f)then(m,-2051)
  else Class.qf m ⟨f,xt,a⟩ (Class.lh m o a f)):=rfl
 generalize Class.set m o a f xt=r at t |-;have Y:=h_ (An ((w.alloc (.cells #[cD b] 82)).alloc (.cells #[I_ f] 2)) b n m o a f ((h.dC _).dC _));generalize Class.lh m o a f=L at t Y al;have ad:((w.alloc (.cells #[cD b] 82)).alloc (.cells #[I_ f] 2)).heap[w.heap.size]?=some (.cells #[cD b] 82 (0,0)):=(dp _ _ (by simp)).trans (cx _ _);have ae:((w.alloc (.cells #[cD b] 82)).alloc (.cells #[I_ f] 2)).heap[w.heap.size+1]?=some (.cells #[I_ f] 2 (0,0)):=by
  have:=cx (w.alloc (.cells #[cD b] 82)) (.cells #[I_ f] 2);rw[World.size_alloc]at this;exact this
 have ah:=cp (i:=0) ad rfl;have ai:=cp (i:=0) ae rfl;have P:=(dR w (.cells #[cD b] 82)).trans (dR _ (.cells #[I_ f] 2));clear ad ae;go_enter func268,ntmps268;go_wp2_with fail;refine Y.out.mono ?_;rintro e w1 ⟨sa,T,rfl,H,C⟩;have R:=C.cell ah id;have S:=C.cell ai id;have z:=(h.ct P id id).ct C id id;have G:=P.trans C;clear C;by_cases u:L=[]
 . have d:=t.out
   rw[if_pos u]at d;have l:=d;clear d t;subst u;go_wp2;go_ret;exact⟨by rw[l];rfl,by rw[l];exact z,G.mono (fun _ _=>False.elim)⟩
 . have d:=t.out
   rw[if_neg u]at d;have am:((L.length:Int) == 0)=false:=by
    cases L with
    | nil=>exact absurd rfl u
    | cons c L=>simp;omega
   clear t u;by_cases K:f<1
   . rw[if_pos K]at d
     have l:=d;clear d;go_wp2;go_ret;exact⟨by rw[l];rfl,by rw[l];exact z,G.mono (fun _ _=>False.elim)⟩
   . rw[if_neg K]at d
     have an:1<=f:=by omega
     clear K
     have A:=h_ (xm w w1 sa T L 387 #[cD w.heap.size,cD (w.heap.size+1)] (fun c=>!dj.tH m c.table f) ⟨H.1,fun g p=>Nat.le_trans (by simp;omega) (H.2 g p)⟩ (by omega) call387 (fun w' O x _=>by
      rw[UN]
      exact CQ w' b n m x f _ _ (z.ct O id id) (O.cell R id) (O.cell S id)))
     cases v:L.any (fun c=>!dj.tH m c.table f)with
     | true =>
      rw[if_pos v]at d;rw[v]at A;have l:=d;clear d v;go_wp2_with fail;refine A.out.mono ?_;rintro e w2 ⟨rfl,s⟩;have J:=z.ct s id id;have I:=G.trans s;clear s;go_wp2;go_ret;exact⟨by rw[l];rfl,by rw[l];exact J,I.mono (fun _ _=>False.elim)⟩
     | false =>
      rw[if_neg (by rw[v];simp)]at d;rw[v]at A;have l:=d;clear d v;go_wp2_with fail;refine A.out.mono ?_;rintro e w2 ⟨rfl,s⟩;have af:=s.cell R id;have ag:=s.cell S id;have J:=z.ct s id id;have I:=G.trans s;have O2:=(gM.ct (W:=w) ⟨H.1,fun g p=>Nat.le_trans (by simp;omega) (H.2 g p)⟩ s (fun _ _=>id));clear s;go_wp2_with fail
      go_loopw [33] (fun N wr=>∃ (j:Nat) (D:Mem),N=I_ j/\j<=L.length/\dY wr b n D/\cq (fun k=>k=n) w wr/\gM w wr sa T L /\
       C_ wr w.heap.size 0=some (cD b)/\C_ wr (w.heap.size+1) 0=some (I_ f)/\Class.qf D ⟨f,xt,a⟩ (L.drop j)=r)
       (fun N _=>L.length-(intOf N).toNat)
      case atStart=>exact⟨0,m,rfl,by omega,J,I.mono (fun _ _=>False.elim),O2,af,ag,l.symm⟩
      case round =>
       obtain⟨j,D,rfl,hj,hm,hk,M,Z,aa,hp⟩:=hrel;clear A;by_cases ac:j<L.length
       . obtain⟨ga,rfl,av,F⟩:=M.get ac
         have ab:L.drop j=L[j] :: L.drop (j+1):=List.drop_eq_getElem_cons ac;have d:=hp;rw[ab,Class.qf]at d;clear ab;generalize L[j]=x at F d;have F0:=F 0 (by omega);have F1:=F 1 (by omega);have F2:=F 2 (by omega);have F3:=F 3 (by omega);have F4:=F 4 (by omega);simp only[gJ.sU,Nat.add_zero]at F0 F1 F2 F3 F4;have ap:=World.block_lt_of_cell? _ _ Z;have aq:=World.block_lt_of_cell? _ _ aa;have p:=h_ (Ox (wr.alloc (.cells #[I_ x.cM,I_ x.cE,I_ x.size,I_ x.table,I_ x.iB] 214)) b n D x.table ⟨f,xt,a⟩ (hm.dC _));generalize dj.put D x.table ⟨f,xt,a⟩=q at p d;obtain⟨mn,e⟩:=q;unfold gV jz.val at p;simp only at p d;have l:=d;clear d F;go_wp2_with fail;refine p.out.mono ?_;rintro u w3 ⟨rfl,m3,k3⟩;have B:=(cq.alloc (fun k=>k=n) wr _).trans k3;have Q:=hk.trans B;have D0:=(B.cell Z (show ¬ w.heap.size=n by omega));have D1:=(B.cell aa (show ¬ w.heap.size+1=n by omega));have O4:=(M.ct B (fun g p e=>by have:=M.2 g p;have e':g=n:=e;omega));clear k3 B;by_cases y:e=0
         . have d:=l
           rw[if_neg (by simpa using y)]at d;have aj:(e != 0)=false:=by simp[y]
           have E:=h_ d;clear d y;go_wp2;go_roundw;case rel=>exact⟨j+1,mn,by go_num,by omega,m3,Q,O4,D0,D1,E.out⟩
           case measure=>simp[intOf];omega
         . have d:=l
           rw[if_pos y]at d;have aj:(e != 0)=true:=by simp[y]
           have E:=h_ d;clear d y;go_wp2;go_ret;exact⟨by rw[<- E.out];rfl,by rw[<- E.out];exact m3,Q⟩
       . have ak:j=L.length:=by omega
         subst ak;have d:=hp;rw[List.drop_length,Class.qf]at d;have l:=d;clear d;go_wp2;go_ret;exact⟨by rw[<- l];rfl,by rw[<- l];exact hm,hk⟩
theorem py:(prog.info? 2).map (fun i=>(i.zero,i.size,i.bytes))=some (some (I_ 0),1,8):=by kernel_rfl
def tK(L:List Int):List Value:=L.map (.int .i64)
def kJ(W w:World)(a:Option Addr)(c:Nat)(L:List Int):Prop:=fp w 2 1 a L.length c (tK L)/\∀ g,dF a=some g->W.heap.size<=g
def iI(w:World)(a:Option Addr)(L:List Int):Prop:=∀ i (hi:i<L.length),∃ g o,a=some ⟨g,o,none⟩/\w.cell? ⟨g,o+i,none⟩=some (I_ L[i])
theorem kJ.nil(W w:World):kJ W w none 0 []:=⟨fp.nil _ _ _,by simp[dF]⟩
theorem kJ.ct{W w w':World}{a:Option Addr}{c:Nat}{L:List Int}(h:kJ W w a c L){S:Nat->Prop}(k:cq S w w')(b:∀ g,dF a=some g->¬ S g):kJ W w' a c L:=⟨h.1.ct k b,h.2⟩
theorem kJ.ie{W w w':World}{a b:Option Addr}{c f:Nat}{L:List Int}(h:kJ W w a c L)(x:Int)(o:fp w' 2 1 b (L.length+1) f (tK L++[I_ x]))(k:Nat)(l:dF b=dF a\/dF b=some k)(i:W.heap.size<=k):kJ W w' b f (L++[x]):=by
 refine⟨?_,?_⟩
 . rw[List.length_append]
   have:tK (L++[x])=tK L++[I_ x]:=by simp[tK]
   rw[this];exact o
 . intro g d
   rcases l with e | e <;> rw[e]at d
   . exact h.2 g d
   . cases d;exact i
theorem kJ.arg{W w:World}{a:Option Addr}{c:Nat}{L:List Int}(h:kJ W w a c L):iI w a L:=by
 intro i b;rcases h.1.jK with⟨rfl,j,rfl,m⟩ | ⟨g,cur,rfl,f,k,d,e,l,n⟩
 . omega
 . refine⟨g,0,rfl,?_⟩
   rw[Nat.zero_add];exact h.1.cell (by simp[tK,b])
theorem iI.ct{w w':World}{a:Option Addr}{L:List Int}(h:iI w a L){S:Nat->Prop}(k:cq S w w')(d:∀ g,dF a=some g->¬ S g):iI w' a L:=by
 intro i c;obtain⟨g,o,rfl,b⟩:=h i c;exact⟨g,o,rfl,k.cell b (d g rfl)⟩
theorem oL(w:World)(x:Int):∀ j u,[Value.int .i64 x][j]?=some u->(w.alloc (.cells #[I_ x] 2)).cell? ((⟨w.heap.size,0,none⟩:Addr).add j)=some u:=by
 intro j u a;rw[Addr.add_lit,Nat.zero_add];refine cp (cx _ _) ?_;simpa using a
theorem qZ(x:Int):∀ u ∈ [Value.int .i64 x],u.oneCell'=true:=by
 intro u a;simp at a;subst a;rfl
def oM(N:Nat->Prop)(w:World)(a:Option Addr)(n c:Nat)(L:List (Int × Int)):Prop :=
 n=L.length/\n<=c/\(∀ g,dF a=some g->N g/\g<w.heap.size) /\
 ∀ i (hi:i<L.length),∃ g o,a=some ⟨g,o,none⟩/\w.cell? ⟨g,o+i*2,none⟩=some (I_ L[i].1)/\w.cell? ⟨g,o+i*2+1,none⟩=some (I_ L[i].2)
structure RC where
 cE:Int
 size:Int
 cy:Int
 oa:Option Addr
 on:Nat
 oc:Nat
def RC.cells(v:RC):List Value:=[I_ v.cE,I_ v.size,I_ v.cy,.slice v.oa v.on v.oc]
def RC.Is(N:Nat->Prop)(w:World)(v:RC)(x:dr):Prop:=v.cE=x.cE/\v.size=x.size/\v.cy=x.cy/\oM N w v.oa v.on v.oc x.own
structure qk(N:Nat->Prop)(w:World)(a:Option Addr)(c:Nat)(V:List RC)(L:List dr):Prop where
 own:fp w 194 4 a V.length c (V.flatMap RC.cells)
 gB:∀ g,dF a=some g->N g
 len:V.length=L.length
 is:∀ i (h:i<V.length) (h':i<L.length),V[i].Is N w L[i]
 apart:∀ i (h:i<V.length) g,dF V[i].oa=some g->dF a≠some g
def my(N:Nat->Prop)(w:World)(a:Option Addr)(n c:Nat)(L:List dr):Prop:=n=L.length/\∃ V,qk N w a c V L
theorem oM.ct{N:Nat->Prop}{w w':World}{a:Option Addr}{n c:Nat}{L:List (Int × Int)}(h:oM N w a n c L){S:Nat->Prop}(k:cq S w w')(e:∀ g,dF a=some g->¬ S g):oM N w' a n c L:=by
 obtain⟨l,m,b,p⟩:=h;refine⟨l,m,fun g d=>⟨(b g d).1,Nat.lt_of_lt_of_le (b g d).2 k.size⟩,fun i q=>?_⟩;obtain⟨g,o,rfl,f,j⟩:=p i q;exact⟨g,o,rfl,k.cell f (e g rfl),k.cell j (e g rfl)⟩
theorem qk.ct{N:Nat->Prop}{w w':World}{a:Option Addr}{c:Nat}{V:List RC}{L:List dr}(h:qk N w a c V L){S:Nat->Prop}(k:cq S w w')(e:∀ g,N g->¬ S g):qk N w' a c V L :=
 ⟨h.own.ct k fun g b=>e g (h.gB g b),h.gB,h.len,fun i m n=>by
  obtain⟨f,j,l,d⟩:=h.is i m n
  exact⟨f,j,l,d.ct k fun g b=>e g (d.2.2.1 g b).1⟩,h.apart⟩
theorem my.ct{N:Nat->Prop}{w w':World}{a:Option Addr}{n c:Nat}{L:List dr}(h:my N w a n c L){S:Nat->Prop}(k:cq S w w')(e:∀ g,N g->¬ S g):my N w' a n c L:=by
 obtain⟨b,V,d⟩:=h;exact⟨b,V,d.ct k e⟩
theorem Kh(V:List RC):(V.flatMap RC.cells).length=V.length*4:=by
 induction V with
 | nil=>rfl
 | cons v V a=>simp[RC.cells]at *;omega
theorem Ki(V:List RC)(i:Nat)(h:i<V.length):(V.flatMap RC.cells)[i*4]?=some (I_ V[i].cE)/\(V.flatMap RC.cells)[i*4+1]?=some (I_ V[i].size) /\
 (V.flatMap RC.cells)[i*4+2]?=some (I_ V[i].cy)/\(V.flatMap RC.cells)[i*4+3]?=some (.slice V[i].oa V[i].on V[i].oc):=by
 induction V generalizing i with
 | nil=>simp at h
 | cons v V b =>
  have e:(v :: V).flatMap RC.cells=v.cells++V.flatMap RC.cells:=rfl;rw[e];cases i with
  | zero=>exact⟨rfl,rfl,rfl,rfl⟩
  | succ i =>
   have a:v.cells.length=4:=rfl;have:=b i (by simpa using h);refine⟨?_,?_,?_,?_⟩
   . rw[List.getElem?_append_right (by rw[a];omega),a,show(i+1)*4-4=i*4 by omega];exact this.1
   . rw[List.getElem?_append_right (by rw[a];omega),a,show(i+1)*4+1-4=i*4+1 by omega];exact this.2.1
   . rw[List.getElem?_append_right (by rw[a];omega),a,show(i+1)*4+2-4=i*4+2 by omega];exact this.2.2.1
   . rw[List.getElem?_append_right (by rw[a];omega),a,show(i+1)*4+3-4=i*4+3 by omega];exact this.2.2.2
theorem my.get{N:Nat->Prop}{w:World}{a:Option Addr}{n c:Nat}{L:List dr}(h:my N w a n c L){i:Nat}(j:i<L.length) :
 ∃ g f m l,a=some ⟨g,0,none⟩/\N g/\n<=c/\w.cell? ⟨g,i*4,none⟩=some (I_ L[i].cE)/\w.cell? ⟨g,i*4+1,none⟩=some (I_ L[i].size) /\
  w.cell? ⟨g,i*4+2,none⟩=some (I_ L[i].cy)/\w.cell? ⟨g,i*4+3,none⟩=some (.slice f m l)/\oM N w f m l L[i].own/\dF f≠some g:=by
 obtain⟨k,V,b⟩:=h;have d:i<V.length:=by rw[b.len];exact j
 obtain⟨u,v,x,y⟩:=Ki V i d;obtain⟨o,p,q,r⟩:=b.is i d j;have s:=b.apart i d;rcases b.own.jK with⟨rfl,k,rfl,D⟩ | ⟨g,cur,rfl,B,t,z,A,C,E⟩
 . omega
 . refine⟨g,_,_,_,rfl,b.gB g rfl,by rw[k,<- b.len];exact t,?_,?_,?_,b.own.cell y,r,fun e=>s g e rfl⟩
   . rw[<- o];exact b.own.cell u
   . rw[<- p];exact b.own.cell v
   . rw[<- q];exact b.own.cell x
def Kj(r:Option Int):Ending:=match r with
 | some x=>.returned (.tuple #[I_ x,.bool true])
 | none=>.returned (.tuple #[I_ 0,.bool false])
theorem EW(N:Nat->Prop)(w:World)(p s k:Int)(c:Option Addr)(v d:Nat)(L:List (Int × Int))(b:Int)(h:oM N w c v d L)(E:L.length<=1000000) :
 Calls prog 100 #[.agg #[I_ p,I_ s,I_ k,.slice c v d],I_ b] w fun e w'=>e=Kj (Ref.own L b)/\K_ w w':=by
 obtain⟨rfl,F,C,z⟩:=h;have n:=dR w (.cells #[I_ p,I_ s,I_ k,.slice c L.length d] 194);have m:Hid (Ref.own L b=Ref.own (L.drop 0) b):=rfl;generalize Ref.own L b=r at m |-;have G:w.heap.size<(w.alloc (.cells #[I_ p,I_ s,I_ k,.slice c L.length d] 194)).heap.size:=by simp
 go_enter func100,ntmps100;go_wp2_with fail
 go_loopw [6] (fun i wr=>∃ j:Nat,i=I_ j/\j<=L.length/\wr=w.alloc (.cells #[I_ p,I_ s,I_ k,.slice c L.length d] 194)/\Ref.own (L.drop j) b=r)
  (fun i _=>L.length-(intOf i).toNat)
 case atStart=>exact⟨0,rfl,by omega,by first | rfl | trivial,m.out.symm⟩
 case round =>
  obtain⟨j,rfl,D,rfl,a⟩:=hrel;by_cases u:j<L.length
  . have t:L.drop j=L[j] :: L.drop (j+1):=List.drop_eq_getElem_cons u
    rw[t,Ref.own]at a;obtain⟨g,o,rfl,f,q⟩:=z j u;have A:=World.block_lt_of_cell? _ _ f;clear t;generalize L[j]=x at f q a;obtain⟨l,H⟩:=x;simp only at f q a A;by_cases e:l=b
    . rw[if_pos e]at a
      have y:(l == b)=true:=by simp[e]
      clear e;go_wp2;go_ret2;exact⟨by rw[<- a];rfl,n⟩
    . rw[if_neg e]at a
      have y:(l == b)=false:=by simp[e]
      clear e;go_wp2;go_roundw;case rel=>exact⟨j+1,by go_num,by omega,by first | rfl | trivial,a⟩
      case measure=>simp[intOf];omega
  . have B:j=L.length:=by omega
    subst B;rw[List.drop_length,Ref.own]at a;go_wp2;go_ret2;exact⟨by rw[<- a];rfl,n⟩
def rF(r:Option (Int × Int)):Ending:=match r with
 | some x=>.returned (.tuple #[I_ x.1,I_ x.2,.bool true])
 | none=>.returned (.tuple #[I_ 0,I_ 0,.bool false])
theorem ra(N:Nat->Prop)(w:World)(a:Option Addr)(n c:Nat)(L:List dr)(k d:Int)(h:my N w a n c L)(B:Ref.Ok L)(J : -1<=k)(K:k<L.length)
 (W:L.length<=1000000) (O:∀ x ∈ L,x.own.length<=1000000) :
 Calls prog 50 #[.slice a n c,I_ k,I_ d] w fun e w'=>e=rF (Ref.dH L k d)/\K_ w w':=by
 have z:=h_ B;obtain rfl:n=L.length:=h.1;clear B;have u:Hid (Ref.dH L k d=Ref.dH L k d):=rfl;generalize b:Ref.dH L k d=r at u |-;clear u;go_enter func50,ntmps50;go_wp2_with fail
 go_loopw [1] (fun s wr=>∃ j:Int,s=I_ j /\ -1<=j/\j<L.length/\K_ w wr/\Ref.dH L j d=r)
  (fun s _=>(intOf s+1).toNat)
 case atStart=>exact⟨k,rfl,J,K,cq.refl _ _,b⟩
 case round =>
  obtain⟨j,rfl,U,V,p,b⟩:=hrel;by_cases X:0<=j
  . obtain⟨i,rfl⟩:∃ i:Nat,j=i:=⟨j.toNat,by omega⟩
    have l:i<L.length:=by omega
    rw[Ref.kT L z.out i d l]at b;obtain⟨g,P,R,Q,rfl,H,Y,A,E,F,G,q,_⟩:=(h.ct p (fun _ _=>id)).get l;obtain⟨D,S⟩:=z.out i l;have C:=O L[i] (List.getElem_mem l);generalize L[i]=x at A E F G q b D S C;have I:=h_ (EW N wr x.cE x.size x.cy P R Q x.own d q C);have f:=b;clear q H;go_wp2_with fail;refine I.out.mono ?_;rintro e Z ⟨rfl,t⟩;have T:=t.cell A id;have y:=p.trans t;clear t;cases m:Ref.own x.own d with
    | some xt =>
     have b:=f;rw[m]at b;have o:=h_ b;clear m;unfold Kj;go_wp2;exact bodyPost_ret (v:=.tuple #[I_ xt,I_ i,.bool true]) (by simp[results,results50,go_sem]) rfl ⟨by rw[<- o.out];rfl,y⟩
    | none =>
     have b:=f;rw[m]at b;have o:=h_ b;clear m;unfold Kj;go_wp2;go_roundw;case rel=>exact⟨x.cE,rfl,D,by omega,y,o.out⟩
     case measure=>simp[intOf];omega
  . have M:j<0:=by omega
    rw[Ref.gD L j d M]at b;have f:=b;go_wp2;exact bodyPost_ret (v:=.tuple #[I_ 0,I_ 0,.bool false]) (by simp[results,results50,go_sem]) rfl ⟨by rw[<- f];rfl,p⟩
theorem Kk(N:Nat->Prop)(w:World)(a:Option Addr)(n c:Nat)(L:List dr)(k o d:Int)(h:my N w a n c L)(B:Ref.Ok L)(K : -1<=k)(M:k<L.length)
 (Y:L.length<=1000000) (P:∀ x ∈ L,x.own.length<=1000000) :
 Calls prog 174 #[.slice a n c,I_ k,I_ o,I_ d] w fun e w'=>e=.returned (.bool (Ref.jA L k o d))/\K_ w w':=by
 have z:=h_ B;obtain rfl:n=L.length:=h.1;clear B;obtain⟨r,b⟩:∃ r,Ref.jA L k o d=r:=⟨_,rfl⟩;rw[b];go_enter func174,ntmps174;go_wp2_with fail
 go_loopw [1] (fun u wr=>∃ j:Int,u=I_ j /\ -1<=j/\j<L.length/\K_ w wr/\Ref.jA L j o d=r)
  (fun u _=>(intOf u+1).toNat)
 case atStart=>exact⟨k,rfl,K,M,cq.refl _ _,b⟩
 case round =>
  obtain⟨j,rfl,W,X,p,b⟩:=hrel;by_cases Z:0<=j
  . by_cases f:j=o
    . rw[Ref.lj L j o d (.inr f)]at b
      have H:(j != o)=false:=by simp[f]
      have V:(j == o)=true:=by simp[f]
      rw[decide_eq_true f]at b;have l:=b;clear f;go_wp2;go_ret;exact⟨by rw[<- l];rfl,p⟩
    . obtain⟨i,rfl⟩:∃ i:Nat,j=i:=⟨j.toNat,by omega⟩
      have m:i<L.length:=by omega
      have H:((i:Int) != o)=true:=by simp[f]
      rw[Ref.wZ L z.out i o d m f]at b;obtain⟨g,Q,S,R,rfl,I,aa,A,E,F,G,t,_⟩:=(h.ct p (fun _ _=>id)).get m;obtain⟨D,T⟩:=z.out i m;have C:=P L[i] (List.getElem_mem m);generalize L[i]=x at A E F G t b D T C;have J:=h_ (EW N wr x.cE x.size x.cy Q S R x.own d t C);have l:=b;clear t I f;go_wp2_with fail;refine J.out.mono ?_;rintro e w2 ⟨rfl,v⟩;have U:=v.cell A id;have y:=p.trans v;clear v;cases q:Ref.own x.own d with
      | some xt =>
       have b:=l;rw[q]at b;have s:=h_ b;clear q;unfold Kj;go_wp2;go_ret;exact⟨by rw[<- s.out];rfl,y⟩
      | none =>
       have b:=l;rw[q]at b;have s:=h_ b;clear q;unfold Kj;go_wp2;go_roundw;case rel=>exact⟨x.cE,rfl,D,by omega,y,s.out⟩
       case measure=>simp[intOf];omega
  . have O:j<0:=by omega
    rw[Ref.lj L j o d (.inl O)]at b;have l:=b;go_wp2;go_ret;exact⟨by rw[<- l];rfl,p⟩
theorem Ax(w:World)(a:Option Addr)(c:Nat)(L:List Int)(v:Int)(h:iI w a L)(t:L.length<=c)(y:L.length<=1000001000000) :
 Calls prog 278 #[.slice a L.length c,I_ v] w fun e w'=>e=.returned (.bool (decide (v ∈ L)))/\w=w':=by
 have H:=h_ h;clear h;obtain⟨r,b⟩:∃ r,decide (v ∈ L)=r:=⟨_,rfl⟩;rw[b];have m:=h_ b;clear b;go_enter func278,ntmps278;go_wp2_with fail
 go_loopw [5] (fun i wr=>∃ j:Nat,i=I_ j/\j<=L.length/\w=wr/\decide (v ∈ L.drop j)=r)
  (fun i _=>L.length-(intOf i).toNat)
 case atStart=>exact⟨0,rfl,by omega,by first | rfl | trivial,m.out⟩
 case round =>
  obtain⟨j,rfl,u,rfl,b⟩:=hrel;by_cases l:j<L.length
  . have k:L.drop j=L[j] :: L.drop (j+1):=List.drop_eq_getElem_cons l
    rw[k]at b;obtain⟨g,o,rfl,n⟩:=H.out j l;clear k;generalize L[j]=x at n b;by_cases e:x=v
    . have p:(x == v)=true:=by simp[e]
      have f:true=r:=by rw[<- b];simp[e]
      have d:=h_ f;clear b e f;go_wp2;go_ret;exact⟨by rw[<- d.out];rfl,rfl⟩
    . have p:(x == v)=false:=by simp[e]
      have f:decide (v ∈ L.drop (j+1))=r:=by
       rw[<- b];have q:¬ v=x:=fun h=>e h.symm;simp[q]
      have d:=h_ f;clear b e f;go_wp2;go_roundw;case rel=>exact⟨j+1,by go_num,by omega,by first | rfl | trivial,d.out⟩
      case measure=>simp[intOf];omega
  . have s:j=L.length:=by omega
    subst s;rw[List.drop_length]at b;have d:=h_ b;clear b;go_wp2;go_ret;exact⟨by rw[<- d.out];rfl,rfl⟩
theorem kJ.cap{W w:World}{a:Option Addr}{c:Nat}{L:List Int}(h:kJ W w a c L):L.length<=c:=by
 rcases h.1.jK with⟨rfl,i,rfl,k⟩ | ⟨g,cur,rfl,f,b,d,e,j,l⟩
 . omega
 . exact b
theorem Kl(N:Nat->Prop)(w:World)(a:Option Addr)(n c:Nat)(L:List dr)(k:Int)(h:my N w a n c L)(O:Ref.Ok L)(af : -1<=k)(ak:k<L.length)
 (hl:L.length<=1000000) (ho:∀ x ∈ L,x.own.length<=1000000) :
 Calls prog 175 #[.slice a n c,I_ k] w fun e w'=>e=.returned (I_ (Ref.jn L k []).length)/\K_ w w':=by
 have E:=h_ O;obtain rfl:n=L.length:=h.1;clear O;obtain⟨r,d⟩:∃ r,Ref.jn L k []=r:=⟨_,rfl⟩;rw[d];have U:=d;go_enter func175,ntmps175;go_wp2_with fail
 go_loopw [1,5] (fun A D wr=>∃ (j:Int) (b:List Int) (f:Option Addr) (l:Nat),A=I_ j/\D=.slice f b.length l /\ -1<=j/\j<=k/\kJ w wr f l b/\K_ w wr/\(b.length:Int)<=(k-j)*1000000/\Ref.jn L j b=r)
  (fun A _ _=>(intOf A+1).toNat)
 case atStart=>exact⟨k,[],none,0,rfl,rfl,af,by omega,kJ.nil _ _,cq.refl _ _,by simp,U⟩
 case round =>
  obtain⟨j,b,f,l,rfl,rfl,ai,aj,o,m,ab,d⟩:=hrel;by_cases z:0<=j
  . obtain⟨i,rfl⟩:∃ i:Nat,j=i:=⟨j.toNat,by omega⟩
    have s:i<L.length:=by omega
    rw[Ref.uy L E.out i b s]at d;obtain⟨g,oa,on,oc,rfl,aa,al,F,G,H,I,t,_⟩:=(h.get s);obtain⟨S,p1⟩:=E.out i s;have ah:=ho L[i] (List.getElem_mem s);generalize L[i]=x at F G H I t d S p1 ah;have T:=h_ t;obtain rfl:on=x.own.length:=t.1;have am:=t.2.1;clear t aa G H;go_wp2_with fail
    go_loopw [5,6] (fun D C wr=>∃ (j:Nat) (b:List Int) (f:Option Addr) (l:Nat),C=I_ j/\D=.slice f b.length l/\j<=x.own.length/\kJ w wr f l b/\K_ w wr /\
     (b.length:Int)<=(k-i)*1000000+j/\Ref.jn L x.cE (Ref.jH b (x.own.drop j))=r)
     (fun _ C _=>x.own.length-(intOf C).toNat)
    case atStart=>exact⟨0,b,f,l,rfl,rfl,by omega,o,m,by omega,d⟩
    case round =>
     obtain⟨j,b,f,l,rfl,rfl,hj,o,m,ab,d⟩:=hrel;have c0:=m.cell F id;have c3:=m.cell I id;by_cases z:j<x.own.length
     . have M:x.own.drop j=x.own[j] :: x.own.drop (j+1):=List.drop_eq_getElem_cons z
       rw[M,Ref.jH]at d;obtain⟨WI,oo,rfl,K,Z⟩:=T.out.2.2.2 j z;have v:=m.cell K id;have J:=v;clear M K Z;generalize x.own[j]=y at J v d;obtain⟨p,y1⟩:=y;simp only at J v d;have ad:=o.cap;have ac:b.length<=1000001000000:=by omega
       have u:=h_ (Ax wr f l b p o.arg ad ac);by_cases q:p ∈ b
       . rw[if_pos q]at d
         rw[decide_eq_true q]at u;clear q;go_wp2_with fail;refine eD u.out ?_;go_wp2;go_roundw;case rel=>exact⟨j+1,b,f,l,by go_num,rfl,by omega,o,m,by omega,d⟩
         case measure=>simp[intOf];omega
       . rw[if_neg q]at d
         rw[decide_eq_false q]at u;clear q;go_wp2_with fail;refine eD u.out ?_
         go_wp2_with (first
          | (at_builtin;refine eB rfl _ _ 22 rfl 2 _ 1 8 underlying22 py rfl (by decide) f b.length l (tK b) rfl (o.1.ct (dR _ _) (fun _ _=>id)) ⟨wr.heap.size,0,none⟩ 1 1 [I_ p] rfl rfl (oL wr p) (qZ p) ?c3 ?c4 ?_))
         case c3=>unfold maxLen;omega
         case c4=>omega
         intro X Y w3 R P Q;have an:w.heap.size<=wr.heap.size:=m.size;have B:=dR wr (.cells #[I_ p] 2);have W:=((o.ct B (fun _ _=>id)).ie p R _ Q (by omega));have V:=((m.trans B).dh P (fun i s e=>absurd (o.2 i e) (by omega)));clear B R P Q;go_wp2;go_roundw;case rel=>exact⟨j+1,b++[p],X,Y,by go_num,by rw[List.length_append];rfl,by omega,W,V,by rw[List.length_append];simp;omega,d⟩
         case measure=>simp[intOf];omega
     . have ae:j=x.own.length:=by omega
       subst ae;rw[List.drop_length,Ref.jH]at d;go_wp2;go_roundw;case rel=>exact⟨x.cE,b,f,l,rfl,rfl,S,by omega,o,m,by omega,d⟩
       case measure=>simp[intOf];omega
  . have ag:j<0:=by omega
    rw[Ref.xa L j b ag]at d;go_wp2;go_ret;exact⟨by rw[<- d];rfl,m⟩
theorem Km:(prog.info? 194).map (fun i=>(i.zero,i.size,i.bytes))=some (some (.agg #[I_ 0,I_ 0,I_ 0,.slice none 0 0]),4,48):=by kernel_rfl
theorem OC(w:World)(v:RC):∀ j u,v.cells[j]?=some u->(w.alloc (.cells #[I_ v.cE,I_ v.size,I_ v.cy,.slice v.oa v.on v.oc] 194)).cell? ((⟨w.heap.size,0,none⟩:Addr).add j)=some u:=by
 intro j u a;rw[Addr.add_lit,Nat.zero_add];refine cp (cx _ _) ?_;simpa[RC.cells] using a
theorem Kn(v:RC):∀ u ∈ v.cells,u.oneCell'=true:=by
 intro u a;simp[RC.cells]at a;rcases a with rfl | rfl | rfl | rfl <;> rfl
theorem OD(V:List RC):∀ u ∈ V.flatMap RC.cells,u.oneCell'=true:=by
 intro u a;obtain⟨v,_,h⟩:=List.mem_flatMap.1 a;exact Kn v u h
theorem qk.cells{N:Nat->Prop}{w:World}{b:Addr}{c:Nat}{V:List RC}{L:List dr}(h:qk N w (some b) c V L):∀ j u,(V.flatMap RC.cells)[j]?=some u->w.cell? (b.add j)=some u:=by
 intro j u d;rcases h.own.jK with⟨a,_⟩ | ⟨g,cur,a,_⟩
 . cases a
 . cases a
   rw[Addr.add_lit,Nat.zero_add];exact h.own.cell d
theorem qk.nil(N:Nat->Prop)(w:World):qk N w none 0 [] [] :=
 ⟨fp.nil _ _ _,fun g a=>(by cases a),rfl,fun i h=>absurd h (Nat.not_lt_zero _),fun i h=>absurd h (Nat.not_lt_zero _)⟩
theorem Ri(V:List RC)(k:Nat)(h:k<V.length)(a:Option Addr)(n c:Nat) :
 (V.flatMap RC.cells).set (k*4+3) (.slice a n c)=(V.set k { V[k] with oa:=a,on:=n,oc:=c }).flatMap RC.cells:=by
 induction V generalizing k with
 | nil=>simp at h
 | cons v V b =>
  cases k with
  | zero=>rfl
  | succ k =>
   have:=b k (by simpa using h);have e:(v :: V).flatMap RC.cells=v.cells++V.flatMap RC.cells:=rfl;rw[e,List.set_append_right _ _ (by simp[RC.cells];omega)];rw[show(k+1)*4+3-v.cells.length=k*4+3 by simp[RC.cells];omega,this];rfl
theorem qk.Rj{N:Nat->Prop}{w w':World}{a:Option Addr}{c:Nat}{V:List RC}{L:List dr}(h:qk N w a c V L)(k:K_ w w'){g r:Nat}(o:fp w' 194 4 (some ⟨g,0,none⟩) L.length r (V.flatMap RC.cells))
 (E:N g) (O:w.heap.size<=g) {j:Nat} (H:j<L.length) {b:Option Addr} {m l:Nat} {Q:List (Int × Int)} (J:oM N w' b m l Q) (z:dF b≠some g) :
 ∃ q:j<V.length,qk N (w'.setCell ⟨g,j*4+3,none⟩ (.slice b m l)) (some ⟨g,0,none⟩) r (V.set j { V[j] with oa:=b,on:=m,oc:=l }) (L.set j { L[j] with own:=Q }):=by
 have f:=h.len;have q:j<V.length:=by omega
 refine⟨q,?_,fun d e=>?_,by simp[f],fun i p B=>?_,fun i p d e n=>?_⟩
 . rcases o.jK with⟨v,_⟩ | ⟨d,cur,v,G,I,C,D,K,R⟩
   . cases v
   . cases v
     refine⟨by rw[Kh,List.length_set],.inr ⟨g,r,cur.setIfInBounds (j*4+3) (.slice b m l),by rw[List.length_set,f],Nat.zero_le _,cz G _,by rw[List.length_set,f];exact I,C,by rw[Array.size_setIfInBounds];exact D,?_⟩⟩;rw[List.length_set,f,<- Ri V j q,<- K,Array.toList_setIfInBounds,List.take_set]
 . have n:g=d:=Option.some.inj e
   rw[<- n];exact E
 . have M:=k.dh (cq.setCell (S:=fun k=>k=g) w' ⟨g,j*4+3,none⟩ (.slice b m l) (fun _=>rfl)) (fun i P e=>by have n:i=g:=e;omega)
   by_cases e:i=j
   . subst e
     rw[List.getElem_set_self,List.getElem_set_self];obtain⟨s,t,u,x⟩:=h.is i q H;exact⟨s,t,u,J.ct (cq.setCell (S:=fun k=>k=g) w' _ _ (fun _=>rfl)) (fun d F e=>z (by rw[F,e]))⟩
   . rw[List.getElem_set_ne (fun h=>e h.symm),List.getElem_set_ne (fun h=>e h.symm)]
     obtain⟨s,t,u,x⟩:=h.is i (by simpa using p) (by simpa using B);exact⟨s,t,u,x.ct M (fun _ _=>id)⟩
 . have A:g=d:=Option.some.inj n
   subst A;by_cases y:i=j
   . subst y
     rw[List.getElem_set_self]at e;exact z e
   . rw[List.getElem_set_ne (fun h=>y h.symm)]at e
     have:=((h.is i (by simpa using p) (by rw[<- f];simpa using p)).2.2.2.2.2.1 g e).2;omega
end Go.Proofs.dS
