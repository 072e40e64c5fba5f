/- A part of WalkG. No condition. -/
import Derived.Test.YthhfkhhhclmimaaGreatDoorM42
import Derived.Test.YthhfkhhhclmimaaGreatDoorM25
set_option linter.unusedVariables false
set_option linter.unusedSimpArgs false
open Go.Proofs.Tryz
set_option maxRecDepth 10000
set_option maxHeartbeats 4000000
namespace Go.Proofs.dS
open Go Go.RowKit Go.Proofs.K
theorem vM(b:Nat)(hb:2<=b):∀ (k m:Nat),m<b ^ (k+1)->dE.eo b (k+1) m=dE.eo b (k+2) m
 | 0,m,h=>by
  have h0:m / b=0:=Nat.div_eq_of_lt (by simpa using h)
  unfold dE.eo;rw[if_pos h0,if_pos h0]
 | k+1,m,h=>by
  unfold dE.eo;by_cases h0:m / b=0
  . rw[if_pos h0,if_pos h0]
  . rw[if_neg h0,if_neg h0,vM b hb k (m / b) (Nat.div_lt_of_lt_mul (by rw[Nat.mul_comm,<- Nat.pow_succ];exact h))]
theorem ID(b n:Nat)(a:2<=b)(h:n<18446744073709551616)(c:¬ n / b=0):(dE.eo b 64 n).reverse=(dE.eo b 64 (n / b)).reverse++[dE.oC (n % b)]:=by
 have d:n / b<b ^ (62+1):=by
  refine Nat.lt_of_lt_of_le ?_ (Nat.pow_le_pow_left a 63);refine Nat.div_lt_of_lt_mul (Nat.lt_of_lt_of_le h ?_);have:2*2 ^ 63<=b*2 ^ 63:=Nat.mul_le_mul_right _ a;have e:(2:Nat)*2 ^ 63=18446744073709551616:=by decide
  omega
 rw[<- vM b a 62 (n / b) d];show(dE.oC (n % b) :: (if n / b=0 then [] else dE.eo b 63 (n / b))).reverse=_;rw[if_neg c,List.reverse_cons]
theorem Mv(b n:Nat)(a:n / b=0):(dE.eo b 64 n).reverse=[dE.oC (n % b)]:=by
 show(dE.oC (n % b) :: (if n / b=0 then [] else dE.eo b 63 (n / b))).reverse=_;rw[if_pos a];rfl
theorem PM(d:Nat)(h:d<36):(⟨#[48,49,50,51,52,53,54,55,56,57,65,66,67,68,69,70,71,72,73,74,75,76,77,78,79,80,81,82,83,84,85,86,87,88,89,90]⟩:ByteArray).extract d (d+1)=⟨#[dE.oC d]⟩:=by
 have:∀ i:Fin 36,(⟨#[48,49,50,51,52,53,54,55,56,57,65,66,67,68,69,70,71,72,73,74,75,76,77,78,79,80,81,82,83,84,85,86,87,88,89,90]⟩:ByteArray).extract i.1 (i.1+1)=⟨#[dE.oC i.1]⟩:=by decide +kernel
 exact this ⟨d,h⟩
theorem BF(b:Nat):∀ k n:Nat,(dE.eo b k n).length<=k
 | 0,_=>Nat.le_refl _
 | k+1,n=>by
  unfold dE.eo;split
  . simp
  . rw[List.length_cons];have:=BF b k (n / b);omega
theorem pd(a b:List UInt8):(⟨a.toArray⟩:ByteArray)++⟨b.toArray⟩=⟨(a++b).toArray⟩:=by
 rw[ByteArray.ext_iff,ByteArray.data_append];simp
theorem zs(b:Nat)(p:2<=b)(q:b<=36)(n:Nat)(v:n<18446744073709551616):∀ w:World,
 Calls Tryz.prog 99 #[.int .u64 (n:Int),.int .i64 (b:Int)] w fun e w'=>e=.returned (.string ⟨((dE.eo b 64 n).reverse).toArray⟩)/\cq (fun _=>False) w w':=by
 induction n using Nat.strongRecOn with
 | ind n k =>
 intro w;have j:n / b<=n:=Nat.div_le_self n b;have m:=fun (h:¬ n / b=0) (V:World)=>k (n / b) (Nat.div_lt_self (Nat.pos_of_ne_zero (fun e=>h (by rw[e];exact Nat.zero_div b))) (by omega)) (by omega) V;have d:¬ n / b=0->b<=n:=fun h=>Nat.le_of_not_lt fun e=>h (Nat.div_eq_of_lt e);have f:n / b=0->n<b:=fun h=>(Nat.div_eq_zero_iff_lt (by omega)).1 h;have B:(0:Int)<=(n:Int):=by omega
 have u:n % b<36:=Nat.lt_of_lt_of_le (Nat.mod_lt _ (by omega)) q;have i:=PM (n % b) u;have z:decide ((b:Int)<2)=false:=decide_eq_false (by omega);have A:decide (36<(b:Int))=false:=decide_eq_false (by omega);have g:(n:Int) / (b:Int)=((n / b:Nat):Int):=by push_cast;rfl
 have l:=h_ g;have r:0<=(n:Int) / (b:Int)/\(n:Int) / (b:Int)<18446744073709551616:=by
  rw[g];exact⟨Int.natCast_nonneg _,by omega⟩
 have x:IntKind.u64.wrap ((n:Int) / (b:Int))=(n:Int) / (b:Int):=IntWalk.u64_in _ (by omega);clear k g;by_cases a:n / b=0
 . have t:=f a
   have o:decide ((b:Int)<=(n:Int))=false:=decide_eq_false (by omega);have c:=Mv b n a;clear d f j r x;go_enter Tryz.func99,Tryz.ntmps99;go_wp2_with fail;go_quiet (fail);go_wp2;go_ret;exact⟨by rw[c];exact congrArg (fun b=>Ending.returned (Value.string b)) i,cq.drewN _ w _⟩
 . have t:=d a
   have o:decide ((b:Int)<=(n:Int))=true:=decide_eq_true (by omega);have c:=ID b n p v a;have s:(dE.eo b 64 (n / b)).reverse.length<=64:=by rw[List.length_reverse];exact BF b 64 _
   clear d f j;go_enter Tryz.func99,Tryz.ntmps99;go_wp2_with fail;go_quiet (fail);rw[i];go_wp2_with fail;rw[l.out];refine(m a _).mono ?_;rintro e D ⟨rfl,y⟩;generalize (dE.eo b 64 (n / b)).reverse=P at s c |-;have C:¬ 9223372036854775807<P.length+1:=by omega
   go_wp2;go_ret;exact⟨by rw[c,<- pd];rfl,(cq.drewN _ w _).trans y⟩
theorem TU(n:Nat)(a:n<=65535):(dE.eo 10 64 n).reverse=Fo.dg n:=by
 have:=dE.rA n (by omega) (by omega);rw[Int.toNat_natCast]at this;exact this.symm
theorem nY(n:Nat)(b:n<=65535)(w:World):Calls prog 49 #[I_ (n:Int)] w fun e w'=>e=.returned (S_ (Fo.dg n))/\K_ w w':=by
 have a:=fun V=>zs 10 (by decide) (by decide) n (by omega) V;have d:(0:Int)<=(n:Int)/\(n:Int)<18446744073709551616:=by omega
 have f:IntKind.u64.wrap (n:Int)=(n:Int):=IntWalk.u64_in _ (by omega);rw[TU n b]at a;go_enter func49,ntmps49;go_wp2_with fail;refine(a _).mono ?_;rintro e g ⟨rfl,c⟩;go_wp2;go_ret;exact⟨rfl,c⟩
theorem pG(n:Nat)(c:n<=65535)(w:World):Calls Tryz.prog 52 #[.int .i64 (n:Int)] w fun e w'=>e=.returned (.string ⟨(Fo.eS n).toArray⟩)/\cq (fun _=>False) w w':=by
 have b:=fun V=>nY n c V;have d:=(Fo.jw n c).2;have a:=show Fo.eS n=[107]++Fo.dg n from rfl;generalize Fo.dg n=P at b d a;have g:¬ 9223372036854775807<1+P.length:=by omega
 go_enter Tryz.func52,Tryz.ntmps52;go_wp2_with fail;refine(b _).mono ?_;rintro e h ⟨rfl,f⟩;go_wp2;go_ret;exact⟨by rw[a,<- pd];rfl,f⟩
def PQ(a:Fo.Act):Array Value:=#[.int .u8 (a.kind:Int),.int .u8 (a.p:Int),.int .u8 (a.c:Int),.int .u8 (a.cZ:Int),.int .u16 (a.n:Int),.bool a.lP]
structure rK(a:Fo.Act):Prop where
 kind:a.kind<=255
 p:a.p<=255
 c:a.c<=255
 cZ:a.cZ<=255
 n:a.n<=65535
def Fo.Act.Ys(a:Fo.Act):List UInt8:=Fo.dz (a.cZ % 5)++32 :: a.body.dJ
theorem BG(a:Fo.Act)(h:rK a)(w:World):Calls prog 97 #[.agg (PQ a)] w fun e w'=>e=.returned (S_ (a.Ys))/\K_ w w':=by
 obtain⟨m,p,c,b,n,j⟩:=a;obtain⟨A,B,C,D,s⟩:=h;dsimp only at A B C D s;unfold PQ;dsimp only;have q:=h_ fun V=>nY (b % 5) (by omega) V;have t:=h_ fun V=>nY n s V;have E:=(Fo.jw (b % 5) (by omega)).2;have F:=(Fo.jw n s).2;have v:(b:Int) % 5=((b % 5:Nat):Int):=by omega
 have u:=h_ v;have K:(0:Int)<=(b:Int):=by omega
 have L:(b:Int)<256:=by omega
 have k:=cx w (.cells #[.int .u8 (m:Int),.int .u8 (p:Int),.int .u8 (c:Int),.int .u8 (b:Int),.int .u16 (n:Int),.bool j] 103);have l:=dR w (.cells #[.int .u8 (m:Int),.int .u8 (p:Int),.int .u8 (c:Int),.int .u8 (b:Int),.int .u16 (n:Int),.bool j] 103);have M:wrap64 ((b:Int) % 5)=(b:Int) % 5:=IntWalk.wrap64_in _ (by omega);have y:wrap64 (n:Int)=(n:Int):=IntWalk.wrap64_in _ (by omega);clear v;have f:Fo.Act.Ys ⟨m,p,c,b,n,j⟩=[109]++Fo.dg (b % 5)++(if j then [32,115,117,112,101,114,32]++([109]++Fo.dg (b % 5))++[32,49,43,32,101,110,100,109,32] else [32]++Fo.dg n++[32,101,110,100,109,32]):=by
  unfold Fo.Act.Ys Fo.Act.body Fo.Body.dJ Fo.dz Fo.dg;cases j <;> simp
 generalize Fo.Act.Ys ⟨m,p,c,b,n,j⟩=T at f |-;generalize Fo.dg (b % 5)=P at q E f;generalize Fo.dg n=R at t F f;have H:¬ 9223372036854775807<1+P.length:=by omega
 have I:¬ 9223372036854775807<1+P.length+1:=by omega
 cases j with
 | true =>
  have o:=h_ (f.trans rfl);clear f;go_enter func97,ntmps97;go_wp2_with fail;rw[u.out];refine(q.out _).mono ?_;rintro e y ⟨rfl,g⟩;have d:=g.heap k id;have r:=h_ (l.trans g);have O:=cp (i:=3) d rfl;have G:=cp (i:=5) d rfl;clear g k d l;go_wp2;go_ret;refine⟨?_,r.out⟩;rw[o.out];show Ending.returned (Value.string _)=_;simp only[pd,if_true,List.append_assoc]
 | false =>
  have o:=h_ (f.trans rfl);clear f;go_enter func97,ntmps97;go_wp2_with fail;rw[u.out];refine(q.out _).mono ?_;rintro e y ⟨rfl,g⟩;have d:=g.heap k id;have r:=h_ (l.trans g);have Q:=cp (i:=4) d rfl;have G:=cp (i:=5) d rfl;clear g k d l;go_wp2_with fail;refine(t.out _).mono ?_;rintro e N ⟨rfl,x⟩;have z:=h_ (r.out.trans x);have J:¬ 9223372036854775807<1+P.length+1+R.length:=by omega
  clear x;go_wp2;go_ret;refine⟨?_,z.out⟩;rw[o.out];show Ending.returned (Value.string _)=_;simp only[pd,Bool.false_eq_true,if_false,List.append_assoc]
theorem PY:(prog.info? 103).map (fun i=>(i.zero,i.size,i.bytes))=some (some (.agg #[.int .u8 0,.int .u8 0,.int .u8 0,.int .u8 0,.int .u16 0,.bool false]),6,8):=by kernel_rfl
def od(a:Fo.Act):List Value:=[.int .u8 (a.kind:Int),.int .u8 (a.p:Int),.int .u8 (a.c:Int),.int .u8 (a.cZ:Int),.int .u16 (a.n:Int),.bool a.lP]
def yR(w:World)(a:Option Addr)(c:Nat)(P:List Fo.Act):Prop:=fp w 103 6 a P.length c (P.flatMap od)
theorem oM.mono{N N':Nat->Prop}{w:World}{a:Option Addr}{n c:Nat}{L:List (Int × Int)}(h:oM N w a n c L)(d:∀ g,N g->g<w.heap.size->N' g):oM N' w a n c L :=
 ⟨h.1,h.2.1,fun g b=>⟨d g (h.2.2.1 g b).1 (h.2.2.1 g b).2,(h.2.2.1 g b).2⟩,h.2.2.2⟩
theorem my.mono{N N':Nat->Prop}{w:World}{a:Option Addr}{n c:Nat}{L:List dr}(h:my N w a n c L)(f:∀ g,N g->g<w.heap.size->N' g):my N' w a n c L:=by
 obtain⟨d,V,b⟩:=h;refine⟨d,V,b.own,fun g e=>f g (b.gB g e) (b.own.lt e),b.len,fun i d o=>?_,b.apart⟩;obtain⟨j,k,l,m⟩:=b.is i d o;exact⟨j,k,l,m.mono f⟩
theorem qk.So{N N':Nat->Prop}{w w':World}{a f:Option Addr}{c n:Nat}{V:List RC}{L:List dr}(h:qk N w a c V L)(k:cq (fun g=>dF a=some g) w w')(x:RC)(y:dr)(A:x.Is N' w' y)
 (o:fp w' 194 4 f (V.length+1) n (V.flatMap RC.cells++x.cells)) (t:dF f=dF a\/∀ g,dF f=some g->w.heap.size<=g) (u:∀ g,N g->g<w.heap.size->N' g) (v:∀ g,dF f=some g->N' g) (z:∀ g,dF x.oa=some g->dF f≠some g):qk N' w' f n (V++[x]) (L++[y]):=by
 refine⟨?_,v,by simp[h.len],fun i j B=>?_,fun i j g d l=>?_⟩
 . rw[List.length_append,List.flatMap_append]
   have e:[x].flatMap RC.cells=x.cells:=by simp
   rw[e];exact o
 . by_cases b:i<V.length
   . rw[List.getElem_append_left b,List.getElem_append_left (by rw[<- h.len];exact b)]
     obtain⟨p,q,r,s⟩:=h.is i b (by rw[<- h.len];exact b);exact⟨p,q,r,(s.mono u).ct k fun g d e=>h.apart i b g d e⟩
   . have m:i=V.length:=by simp at j;omega
     subst m;rw[List.getElem_append_right (Nat.le_refl _),List.getElem_append_right (by rw[<- h.len];exact Nat.le_refl _)];simpa[h.len] using A
 . by_cases b:i<V.length
   . rw[List.getElem_append_left b]at d
     have C:=((h.is i b (by rw[<- h.len];exact b)).2.2.2.2.2.1 g d).2;rcases t with e | e
     . exact h.apart i b g d (e ▸ l)
     . have:=e g l
       omega
   . have m:i=V.length:=by simp at j;omega
     subst m;rw[List.getElem_append_right (Nat.le_refl _)]at d;exact z g (by simpa using d) l
namespace Fo
structure NY(P:List Act)(TL:List dr):Prop where
 ok:Ref.Ok TL
 cy:∀ x ∈ TL,x.cy=9
 len:TL.length<=P.length
 S6:∀ x ∈ TL,x.own.length<=P.length
 own:∀ x ∈ TL,∀ p ∈ x.own,1<=p.1/\p.1<=5/\∃ j:Nat,p.2=j/\j<P.length
theorem NY.nil:NY [] [] :=
 ⟨fun i h=>absurd h (Nat.not_lt_zero i),fun x h=>absurd h (List.not_mem_nil),Nat.le_refl _,fun x h=>absurd h (List.not_mem_nil),fun x h=>absurd h (List.not_mem_nil)⟩
theorem QN(a:Act):1<=a.s1/\a.s1<=5:=by unfold Act.s1;omega
theorem NY.grow{P:List Act}{TL:List dr}(h:NY P TL)(a:Act):NY (P++[a]) (grow TL P.length a):=by
 have hs:=QN a;have hl:(P++[a]).length=P.length+1:=by simp
 unfold Fo.grow;by_cases hn:a.lS TL.length=true
 . rw[if_pos hn]
   have hpar : -1<=Class.cU (a.cg TL.length)/\Class.cU (a.cg TL.length)<TL.length:=by
    unfold Act.cg;by_cases hp:a.p<TL.length
    . rw[if_pos hp];unfold Class.cU;simp only;omega
    . rw[if_neg hp];unfold Class.cU;simp only;omega
   refine⟨fun i hi=>?_,fun x hx=>?_,?_,fun x hx=>?_,fun x hx p hp=>?_⟩
   . by_cases hil:i<TL.length
     . rw[List.getElem_append_left hil];exact h.ok i hil
     . have:i=TL.length:=by simp at hi;omega
       subst this;rw[List.getElem_append_right (Nat.le_refl _)];simpa using hpar
   . rcases List.mem_append.1 hx with hx | hx
     . exact h.cy x hx
     . rw[List.mem_singleton.1 hx]
   . rw[hl,List.length_append];have:=h.len;simp;omega
   . rw[hl]
     rcases List.mem_append.1 hx with hx | hx
     . have:=h.S6 x hx;omega
     . rw[List.mem_singleton.1 hx];show 1<=P.length+1;omega
   . rw[hl]
     rcases List.mem_append.1 hx with hx | hx
     . obtain⟨q1,q2,j,q3,q4⟩:=h.own x hx p hp
       exact⟨q1,q2,j,q3,by omega⟩
     . rw[List.mem_singleton.1 hx]at hp
       have hp:p ∈ [(a.s1,(P.length:Int))]:=hp;rw[List.mem_singleton.1 hp];exact⟨hs.1,hs.2,P.length,rfl,by omega⟩
 . rw[if_neg hn]
   have h0:0<TL.length:=by
    unfold Act.lS at hn;simp only[Bool.or_eq_true,decide_eq_true_eq]at hn
    omega
   have hc:a.c % TL.length<TL.length:=Nat.mod_lt _ h0;generalize a.c % TL.length=c at hc;have hg:Ref.get TL (c:Int)=TL[c]:=Ref.get_at TL c hc;unfold Ref.put;rw[hg];have hm:TL[c] ∈ TL:=List.getElem_mem hc;refine⟨fun i hi=>?_,fun x hx=>?_,?_,fun x hx=>?_,fun x hx p hp=>?_⟩
   . rw[List.length_set]at hi
     rw[List.getElem_set];by_cases e:c=i
     . subst e;rw[if_pos rfl];exact h.ok c hi
     . rw[if_neg e];exact h.ok i hi
   . rcases List.mem_or_eq_of_mem_set hx with hx | hx
     . exact h.cy x hx
     . rw[hx];exact(h.cy _ hm:TL[c].cy=9)
   . rw[hl,List.length_set];have:=h.len;omega
   . rw[hl]
     rcases List.mem_or_eq_of_mem_set hx with hx | hx
     . have:=h.S6 x hx;omega
     . rw[hx]
       show(TL[c].own.filter _++[(a.s1,(P.length:Int))]).length<=P.length+1
       rw[List.length_append];have h1:=List.length_filter_le (fun p:Int × Int=>decide (p.1≠a.s1)) TL[c].own
       have h2:=h.S6 _ hm;simp only[List.length_singleton]
       omega
   . rw[hl]
     rcases List.mem_or_eq_of_mem_set hx with hx | hx
     . obtain⟨q1,q2,j,q3,q4⟩:=h.own x hx p hp
       exact⟨q1,q2,j,q3,by omega⟩
     . rw[hx]at hp
       have hp:p ∈ TL[c].own.filter (fun p=>decide (p.1≠a.s1))++[(a.s1,(P.length:Int))]:=hp
       rcases List.mem_append.1 hp with hp | hp
       . obtain⟨q1,q2,j,q3,q4⟩:=h.own _ hm p (List.mem_filter.1 hp).1
         exact⟨q1,q2,j,q3,by omega⟩
       . rw[List.mem_singleton.1 hp]
         exact⟨hs.1,hs.2,P.length,rfl,by omega⟩
theorem NY.Sq{P:List Act}{b:List dr}(h:NY P b)(a:Act)(f:a.lS b.length=false):Ref.set b (a.c % b.length) a.s1 P.length=(Fo.grow b P.length a,0):=by
 have g:=QN a;unfold Fo.grow;rw[if_neg (by rw[f];simp)];refine vL b h.ok (fun i d=>?_) (fun i d p e=>?_) _ _ _ g.1
 . rw[Ref.get_at b i d];exact h.cy _ (List.getElem_mem d)
 . rw[Ref.get_at b i d]at e
   obtain⟨j,k,_⟩:=h.own _ (List.getElem_mem d) p e;exact⟨j,k⟩
end Fo
namespace VM
theorem ia(v:VM)(xt o:Int):(v.method xt o).1.x.cu=v.x.cu:=by
 unfold method;split
 . rfl
 . split <;> rfl
theorem wh(v:VM)(a s:Int):(v.send a s).1.x.cu=v.x.cu:=by
 unfold send;split
 . rfl
 . exact ia v _ a
theorem jP(n:Nat)(f:VM->List Int->VM × Int)(hf:∀ v l,(f v l).1.x.cu=v.x.cu)(v:VM):(iF n f v).1.x.cu=v.x.cu:=by
 unfold iF;split
 . rfl
 . exact hf _ _
theorem jz.cu{v:VM}{xt:Int}{q:VM × Int}(h:jz v xt q):q.1.x.cu=v.x.cu:=by
 cases h with
 | colon h =>
  unfold fA;split <;> rfl
 | value n h1 h2=>rfl
 | PH c pk h1 h2 h3 =>
  cases pk with
  | plain f =>
   unfold lP at h3;simp only[Bool.or_eq_true,decide_eq_true_eq]at h3
   rcases h3 with (rfl | rfl) | rfl
   . rfl
   . show(uZ 364 v).1.x.cu=_
     show(VM.uZ 364 v).1.x.cu=_
     unfold uZ;simp only[Nat.reduceEqDiff,if_false,if_true]
     repeat' split
     all_goals first
      | rfl
      | exact ia _ _ _
   . show(uZ 365 v).1.x.cu=_
     unfold uZ;simp only[Nat.reduceEqDiff,if_false,if_true]
     repeat' split
     all_goals rfl
  | with_ n f =>
   unfold lP at h3;simp only[Bool.and_eq_true,decide_eq_true_eq]at h3
   obtain⟨rfl,rfl⟩:=h3;refine jP _ _ (fun v l=>?_) v
   show(jk (fun v a=>let q:=v.inline;if q.2.2≠0 then(q.1,q.2.2)else q.1.send a q.2.1) v l).1.x.cu=_
   unfold jk;dsimp only;split
   . rfl
   . exact wh _ _ _
  | push f =>
   unfold lP at h3;simp only[decide_eq_true_eq]at h3
   subst h3
   show(oT inline v).1.x.cu=_
   unfold oT;split <;> rfl
  | moves n l=>cases h3
  | look f=>cases h3
  | two op=>cases h3
  | one op=>exact jP _ _ (fun v l=>by unfold tg;split <;> rfl) v
theorem sJ.cu{q Q:VM × Int}(h:sJ q Q):Q.1.x.cu=q.1.x.cu:=by
 induction h with
 | stop q _=>rfl
 | step v v1 xt q Q _ _ hi _ he _ _ ih =>
  have:v.inline.1.x.cu=v.x.cu:=rfl;rw[hi]at this;rw[ih,he.cu];exact this
 | err v v1 xt q _ _ hi _ he _ _ =>
  have:v.inline.1.x.cu=v.x.cu:=rfl;rw[hi]at this;rw[he.cu];exact this
theorem sJ.Bu{q Q:VM × Int}(h:sJ q Q):Q.1.cI<=q.1.cI:=by
 induction h with
 | stop q _=>exact Int.le_refl _
 | step v v1 xt q Q _ _ hi _ he _ _ ih =>
  have:v.inline.1.cI=v.cI:=rfl;rw[hi]at this;rw[he.cI]at ih;have ih:Q.1.cI<=v1.cI-1:=ih;have this:v1.cI=v.cI:=this
  show Q.1.cI<=v.cI
  omega
 | err v v1 xt q _ _ hi _ he _ _ =>
  have:v.inline.1.cI=v.cI:=rfl;rw[hi]at this;have h:=he.cI;have h:q.1.cI=v1.cI-1:=h;have this:v1.cI=v.cI:=this
  show q.1.cI<=v.cI
  omega
theorem Bt.cu{v:VM}{xt:Int}{Q:VM × Int}(h:Bt v xt Q):Q.1.x.cu=v.x.cu:=by
 obtain⟨_,q,he,_,hr⟩:=h;rw[hr.cu,he.cu]
end VM
end Go.Proofs.dS
