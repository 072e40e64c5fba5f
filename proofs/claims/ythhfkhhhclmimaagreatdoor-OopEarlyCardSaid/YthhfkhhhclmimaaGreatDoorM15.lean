/- A part of EarlyG. No condition. -/
import Derived.Test.YthhfkhhhclmimaaGreatDoorM04
import Derived.Test.YthhfkhhhclmimaaGreatDoorM14
set_option linter.unusedVariables false
set_option linter.unusedSimpArgs false
open Go.Proofs.Tryz
set_option maxRecDepth 10000
set_option maxHeartbeats 2000000
namespace Go.Proofs.dS
open Go Go.RowKit Go.Proofs.K
structure wG(w:World)(h b bb:Nat)(m:Mem)(lo hi:Int):Prop where
 head:w.heap[h]?=some (.cells #[cD b,I_ lo,I_ hi] 298 (0,0))
 mem:dY w b bb m
 yF:h≠b
 sT:h≠bb
 Rm:0<=lo
 lt:lo<=hi
 uE:hi<=m.size
theorem wG.ct{w w':World}{h b a:Nat}{m:Mem}{d c:Int}(H:wG w h b a m d c){S:Nat->Prop}(k:cq S w w')(e:¬ S h)(f:¬ S b)(g:¬ S a):wG w' h b a m d c :=
 ⟨k.heap H.head e,H.mem.ct k f g,H.yF,H.sT,H.Rm,H.lt,H.uE⟩
theorem wG.with{w w':World}{h b a:Nat}{m m':Mem}{d c:Int}(H:wG w h b a m d c)(e:dY w' b a m')(f:m'.size=m.size)(k:cq (fun j=>j=a) w w'):wG w' h b a m' d c :=
 ⟨k.heap H.head H.sT,e,H.yF,H.sT,H.Rm,H.lt,by rw[f];exact H.uE⟩
theorem wG.c0{w:World}{h b a:Nat}{m:Mem}{d c:Int}(H:wG w h b a m d c):w.cell? ⟨h,0,none⟩=some (cD b):=cp H.head rfl
theorem wG.c1{w:World}{h b c:Nat}{m:Mem}{a d:Int}(H:wG w h b c m a d):w.cell? ⟨h,1,none⟩=some (I_ a):=cp H.head rfl
theorem wG.c2{w:World}{h b c:Nat}{m:Mem}{d a:Int}(H:wG w h b c m d a):w.cell? ⟨h,2,none⟩=some (I_ a):=cp H.head rfl
def nr.val(x:nr):Value:=.agg #[I_ x.cM,I_ x.size,.bool x.used]
def nr.cells(x:nr):List Value:=[I_ x.cM,I_ x.size,.bool x.used]
def rp(L:List nr):List Value:=L.flatMap nr.cells
theorem KL(P L:List nr):rp (P++L)=rp P++rp L:=by simp[rp]
theorem KM(L:List nr)(i:Nat)(h:i<L.length):(rp L)[i*3]?=some (I_ L[i].cM)/\(rp L)[i*3+1]?=some (I_ L[i].size)/\(rp L)[i*3+2]?=some (.bool L[i].used):=by
 induction L generalizing i with
 | nil=>cases h
 | cons p L a =>
  have e:rp (p :: L)=I_ p.cM :: I_ p.size :: .bool p.used :: rp L:=rfl;rw[e];cases i with
  | zero=>exact⟨rfl,rfl,rfl⟩
  | succ i =>
   have:=a i (by simpa using h);rw[show(i+1)*3=i*3+3 by omega];exact this
theorem rq(w:World)(h b f:Nat)(m:Mem)(E C:Int)(x:nr)(H:wG w h b f m E C)(A : -4611686018427387904<=x.size)(B:x.size<=4611686018427387904) :
 Calls prog 209 #[cD h,x.val] w (gV b f (dP.put m x) w):=by
 obtain⟨a,c,l⟩:=x;have v:=H.mem;have z:=H.c0;have D:h<w.heap.size:=cA H.head;clear H;have o:=cq.alloc (fun k=>k=f) w (.cells #[I_ a,I_ c,.bool l] 301);have n:=v.dC (.cells #[I_ a,I_ c,.bool l] 301);have u:=cp (i:=0) (cx w (.cells #[I_ a,I_ c,.bool l] 301)) rfl;have t:(w.alloc (.cells #[I_ a,I_ c,.bool l] 301)).cell? ⟨h,0,none⟩=some (cD b):=(World.cell?_alloc_lt _ _ _ D).trans z;unfold nr.val;simp only at A B;cases l with
 | true =>
  have g:=fun w H=>ed w b f m a (c+1) H;have d:Hid (dP.put m ⟨a,c,true⟩=m.setCell a (c+1)):=rfl;generalize dP.put m ⟨a,c,true⟩=r at d |-;rw[<- d.out]at g;clear d;go_enter func209,ntmps209;go_wp2_with fail;generalize w.alloc (.cells #[I_ a,I_ c,.bool true] 301)=y at n o u t |-;go_still_tail 7,(by kernel_rfl);change wpList _ _ _ _ _ (World.drew _);go_wp2_with fail;refine(g _ n.drew).mono ?_;rintro e F q;obtain⟨rfl,s,j⟩:=q.drew;have p:=o.trans j;clear j;go_wp2;go_ret;exact⟨rfl,s,p⟩
 | false =>
  have g:=fun w H=>ed w b f m a c H;have d:Hid (dP.put m ⟨a,c,false⟩=m.setCell a c):=rfl;generalize dP.put m ⟨a,c,false⟩=r at d |-;rw[<- d.out]at g;clear d;go_enter func209,ntmps209;go_wp2_with fail;generalize w.alloc (.cells #[I_ a,I_ c,.bool false] 301)=y at n o u t |-;go_still_tail 7,(by kernel_rfl);change wpList _ _ _ _ _ (World.drew _);go_wp2_with fail;refine(g _ n.drew).mono ?_;rintro e F q;obtain⟨rfl,s,j⟩:=q.drew;have p:=o.trans j;clear j;go_wp2;go_ret;exact⟨rfl,s,p⟩
set_option maxHeartbeats 8000000
namespace dP
theorem uX(m:Mem)(b:Int)(k:Nat)(a:Int)(h:b-a<=k)(j:Nat)(f:b-a<=j):fL m b j a=fL m b k a:=by
 induction k generalizing a j with
 | zero =>
  cases j with
  | zero=>rfl
  | succ j=>rw[fL,fL,if_neg (by omega)]
 | succ k e =>
  cases j with
  | zero=>rw[fL,fL,if_neg (by omega)]
  | succ j =>
   rw[fL,fL];by_cases c:a<b
   . rw[if_pos c,if_pos c]
     by_cases d:(m.cell a).2≠0\/(dF a (m.cell a).1).size<16\/(dF a (m.cell a).1).size % 8≠0\/b-a<(dF a (m.cell a).1).size
     . rw[if_pos d,if_pos d]
     . rw[if_neg d,if_neg d,e _ (by omega) j (by omega)]
   . rw[if_neg c,if_neg c]
def ew(m:Mem)(hi a:Int):Option (List nr):=fL m hi (hi-a).toNat a
theorem KN(m:Mem)(b a:Int)(h:¬ a<b):ew m b a=some []:=by
 unfold ew;rw[show(b-a).toNat=0 by omega];rfl
theorem Hg(m:Mem)(b a:Int)(h:a<b):ew m b a=if(m.cell a).2≠0\/(dF a (m.cell a).1).size<16\/(dF a (m.cell a).1).size % 8≠0\/b-a<(dF a (m.cell a).1).size then none
 else(ew m b (a+(dF a (m.cell a).1).size)).map (dF a (m.cell a).1 :: ·):=by
 unfold ew;obtain⟨k,d⟩:∃ k,(b-a).toNat=k+1:=⟨(b-a).toNat-1,by omega⟩;rw[d,fL,if_pos h];by_cases c:(m.cell a).2≠0\/(dF a (m.cell a).1).size<16\/(dF a (m.cell a).1).size % 8≠0\/b-a<(dF a (m.cell a).1).size
 . rw[if_pos c,if_pos c]
 . rw[if_neg c,if_neg c,uX m b (b-(a+(dF a (m.cell a).1).size)).toNat _ (by omega) k (by omega)]
end dP
theorem OO:(prog.info? 301).map (fun i=>(i.zero,i.size,i.bytes))=some (some (.agg #[I_ 0,I_ 0,.bool false]),3,24):=by kernel_rfl
def wH(B:Nat)(w:World)(a:Option Addr)(c:Nat)(L:List nr):Prop:=fp w 301 3 a L.length c (rp L)/\∀ g,dF a=some g->B<=g
theorem wH.ct{B:Nat}{w w':World}{a:Option Addr}{c:Nat}{L:List nr}(h:wH B w a c L){S:Nat->Prop}(k:cq S w w')(b:∀ g,dF a=some g->¬ S g):wH B w' a c L:=⟨h.1.ct k b,h.2⟩
theorem wH.ie{B:Nat}{w w':World}{a b:Option Addr}{c f:Nat}{L:List nr}(h:wH B w a c L)(x:nr)(o:fp w' 301 3 b (L.length+1) f (rp L++x.cells))(k:Nat)(l:dF b=dF a\/dF b=some k)(i:B<=k):wH B w' b f (L++[x]):=by
 refine⟨?_,?_⟩
 . rw[KL,List.length_append]
   have:rp [x]=x.cells:=by simp[rp]
   rw[this];exact o
 . intro g d
   rcases l with e | e <;> rw[e]at d
   . exact h.2 g d
   . cases d;exact i
def yT(r:Option (List nr))(w:World)(e:Ending)(w':World):Prop :=
 match r with
 | none=>e=.returned (.tuple #[.slice none 0 0,I_ (-2052)])/\K_ w w'
 | some L=>∃ a c,e=.returned (.tuple #[.slice a L.length c,I_ 0])/\wH w.heap.size w' a c L/\K_ w w'
theorem KO(w:World)(x:nr):∀ j u,x.cells[j]?=some u->(w.alloc (.cells #[I_ x.cM,I_ x.size,.bool x.used] 301)).cell? ((⟨w.heap.size,0,none⟩:Addr).add j)=some u:=by
 intro j u a;rw[Addr.add_lit,Nat.zero_add];refine cp (cx _ _) ?_;simpa[nr.cells] using a
theorem OP(x:nr):∀ u ∈ x.cells,u.oneCell'=true:=by
 intro u a;simp[nr.cells]at a;rcases a with rfl | rfl | rfl <;> rfl
theorem Ax(w:World)(h b V:Nat)(m:Mem)(s f:Int)(t:wG w h b V m s f) :
 Calls prog 279 #[cD h] w (yT (dP.blocks m s f) w):=by
 have ac:=h_ t;have c1:=t.c1;have b0:=t.Rm;have b1:=t.lt;have b2:=t.uE;have b3:=t.mem.le;clear t;have T:Hid (dP.blocks m s f=dP.ew m f s):=rfl;generalize dP.blocks m s f=r at T |-;go_enter func279,ntmps279;go_wp2_with fail
 go_loopw [4,5] (fun ov Q wr=>∃ (P:List nr) (a:Option Addr) (c:Nat) (i:Int),ov=.slice a P.length c/\Q=I_ i/\s<=i/\i<=f/\16*P.length<=i-s/\wH w.heap.size wr a c P/\K_ w wr/\(dP.ew m f i).map (P++·)=r)
  (fun _ Q _=>(f-intOf Q).toNat)
 case atStart=>exact⟨[],none,0,s,rfl,rfl,by omega,by omega,by simp,⟨fp.nil _ _ _,fun g hg=>(by cases hg)⟩,cq.refl _ _,by rw[T.out];simp⟩
 case round =>
  obtain⟨P,a,c,i,rfl,rfl,i0,i1,i2,ho,N,j⟩:=hrel;have L:=h_ ho;have K:=h_ N;have H:=h_ (ac.out.ct N id id id);have af:=H.out.c0;have ag:=H.out.c2;clear ho N;by_cases aa:i<f
  . rw[dP.Hg m f i aa]at j
    have y:=h_ (eu wr b V m i H.out.mem);have M:=m.fh i;generalize m.cell i=q at y M j;obtain⟨n,e⟩:=q;simp only at y M j;obtain⟨n0,n1⟩:=M;have e1:=KI n n0 n1;have e2:=KJ n;have hz:n-n % 2<=9223372036854775807 /\ -9223372036854775808<=n-n % 2:=by omega
    have Z:dP.dF i n=⟨i,n-n % 2,decide (n % 2=1)⟩:=rfl;rw[Z]at j;have hu:decide (n % 2=1)=(n % 2 == 1):=rfl;rw[hu]at j;clear Z hu;generalize n-n % 2=z at e1 j hz;generalize (n % 2)=v at e2 j;generalize hv:(v == 1)=u at j;have o:=h_ (K.out.trans (dR wr (.cells #[I_ i,I_ z,.bool u] 301)));have A:=cp (i:=0) (cx wr (.cells #[I_ i,I_ z,.bool u] 301)) rfl;have B:=cp (i:=1) (cx wr (.cells #[I_ i,I_ z,.bool u] 301)) rfl;have C:=cp (i:=2) (cx wr (.cells #[I_ i,I_ z,.bool u] 301)) rfl;have D:=h_ (H.out.ct (dR wr (.cells #[I_ i,I_ z,.bool u] 301)) id id id);have F:=D.out.c2;have E:=h_ (L.out.ct (dR wr (.cells #[I_ i,I_ z,.bool u] 301)) (fun _ _=>id));dsimp only at j;have x:=h_ j;clear j;by_cases he:e=0
    . subst he
      by_cases W:z<16
      . have d1:decide (z<16)=true:=decide_eq_true W
        have d:=x.out;rw[if_pos (by omega)]at d;have p:=h_ (show r=none from d.symm);clear d;go_wp2_with fail;refine eD y.out ?_;go_wp2_with fail;generalize wr.alloc (.cells #[I_ i,I_ z,.bool u] 301)=k at o A B C F D E |-;go_quiet (fail);go_wp2;go_ret2;rw[p.out];exact⟨rfl,o.out.trans (cq.drewN _ _ _)⟩
      . have d1:decide (z<16)=false:=decide_eq_false W
        have ah:0<=z:=by omega
        by_cases X:z % 8=0
        . have d2:(z % 8 != 0)=false:=by simp[X]
          by_cases hh:f-i<z
          . have d3:decide (f-i<z)=true:=decide_eq_true hh
            have d:=x.out;rw[if_pos (by omega)]at d;have p:=h_ (show r=none from d.symm);clear d;go_wp2_with fail;refine eD y.out ?_;go_wp2_with fail;generalize wr.alloc (.cells #[I_ i,I_ z,.bool u] 301)=k at o A B C F D E |-;go_quiet (fail);go_wp2;go_ret2;rw[p.out];exact⟨rfl,o.out.trans (cq.drewN _ _ _)⟩
          . have d3:decide (f-i<z)=false:=decide_eq_false hh
            have d:=x.out;rw[if_neg (by omega)]at d;have p:=h_ d;clear d;go_wp2_with fail;refine eD y.out ?_;go_wp2_with fail;generalize Y:wr.alloc (.cells #[I_ i,I_ z,.bool u] 301)=k at o A B C F D E |-;have ab:k.heap.size=wr.heap.size+1:=by rw[<- Y,World.size_alloc]
            have aj:w.heap.size<=wr.heap.size:=K.out.size;clear Y;go_quiet (fail);have U:=h_ (o.out.trans (cq.drewN _ k nq));have I:=h_ (E.out.ct (cq.drewN (fun _=>False) k nq) (fun _ _=>id));have E0:(k.drewN nq).cell? ⟨wr.heap.size,0,none⟩=_:=A;have S:(k.drewN nq).cell? ⟨wr.heap.size,1,none⟩=_:=B;have E2:(k.drewN nq).cell? ⟨wr.heap.size,2,none⟩=_:=C;have O:(k.drewN nq).heap.size=wr.heap.size+1:=ab;generalize k.drewN nq=G at U I E0 S E2 O |-;have ad:=h_ O;clear O ab
            go_wp2_with (first
             | (at_builtin;refine eB rfl _ _ 342 rfl 301 _ 3 24 underlying342 OO rfl (by decide) a P.length c (rp P) rfl ?f1 ⟨G.heap.size,0,none⟩ 1 1 [I_ i,I_ z,.bool u] rfl rfl (KO G ⟨i,z,u⟩) (OP ⟨i,z,u⟩) ?f3 ?f4 ?_))
            case f1=>exact(I.out.ct (dR G _) (fun _ _=>id)).1
            case f3=>unfold maxLen;omega
            case f4=>omega
            intro a4 c4 w4 o4 R l4;have J:=dR G (.cells #[I_ i,I_ z,.bool u] 301);have ak:w.heap.size<=G.heap.size:=by have:=ad.out;omega
            have ae:=R.cell (J.cell S id) (show ¬ dF a=some wr.heap.size from fun e=>absurd (L.out.1.lt e) (Nat.lt_irrefl _));have O4:=h_ ((I.out.ct J (fun _ _=>id)).ie ⟨i,z,u⟩ o4 _ l4 (by omega));have K4:=h_ ((U.out.trans J).dh R (fun i f e=>absurd (I.out.2 i e) (by omega)));clear J o4 R l4;go_wp2;go_roundw;case rel =>
             refine⟨P++[⟨i,z,u⟩],a4,c4,i+z,by rw[List.length_append];rfl,by go_num,by omega,by omega,by rw[List.length_append,List.length_singleton];omega,O4.out,K4.out,?_⟩;rw[<- p.out,Option.map_map];congr 1;funext l;simp
            case measure=>simp[intOf];omega
        . have d2:(z % 8 != 0)=true:=by simp[X]
          have d:=x.out;rw[if_pos (by omega)]at d;have p:=h_ (show r=none from d.symm);clear d;go_wp2_with fail;refine eD y.out ?_;go_wp2_with fail;generalize wr.alloc (.cells #[I_ i,I_ z,.bool u] 301)=k at o A B C F D E |-;go_quiet (fail);go_wp2;go_ret2;rw[p.out];exact⟨rfl,o.out.trans (cq.drewN _ _ _)⟩
    . have ai:(e != 0)=true:=by simp[he]
      have d:=x.out;rw[if_pos (by omega)]at d;have p:=h_ (show r=none from d.symm);clear d;go_wp2_with fail;refine eD y.out ?_;go_wp2_with fail;generalize wr.alloc (.cells #[I_ i,I_ z,.bool u] 301)=k at o A B C F D E |-;go_quiet (fail);go_wp2;go_ret2;rw[p.out];exact⟨rfl,o.out.trans (cq.drewN _ _ _)⟩
  . rw[dP.KN m f i aa]at j
    have x:=h_ j;clear j;go_wp2;go_ret2;rw[<- x.out];exact⟨a,c,by simp,by simpa using L.out,K.out⟩
namespace dP
theorem KP(m:Mem)(d:Int)(k:Nat)(a:Int)(l:List nr)(h:fL m d k a=some l):∀ b ∈ l,a<=b.cM/\b.cM+b.size<=d/\16<=b.size:=by
 induction k generalizing a l with
 | zero =>
  rw[fL]at h;cases h;intro b c;cases c
 | succ k j =>
  rw[fL]at h;by_cases g:a<d
  . rw[if_pos g]at h
    by_cases i:(m.cell a).2≠0\/(dF a (m.cell a).1).size<16\/(dF a (m.cell a).1).size % 8≠0\/d-a<(dF a (m.cell a).1).size
    . rw[if_pos i]at h;cases h
    . rw[if_neg i]at h
      cases f:fL m d k (a+(dF a (m.cell a).1).size)with
      | none=>rw[f]at h;cases h
      | some q =>
       rw[f]at h;simp only[Option.map_some,Option.some.injEq]at h;subst h;have e:(dF a (m.cell a).1).cM=a:=rfl;intro b c;rcases List.mem_cons.1 c with rfl | c
       . omega
       . have:=j _ _ f b c
         omega
  . rw[if_neg g]at h
    cases h;intro b c;cases c
theorem CZ{m:Mem}{c a:Int}{l:List nr}(h:blocks m c a=some l):∀ b ∈ l,c<=b.cM/\b.cM+b.size<=a/\16<=b.size:=KP m a _ c l h
end dP
def Hh(b bb:Nat)(r:Mem × Int)(lo hi:Int)(w:World)(e:Ending)(w':World):Prop :=
 ∃ h,e=.returned (.tuple #[cD h,I_ r.2])/\wG w' h b bb r.1 lo hi/\w.heap.size<=h/\cq (fun k=>k=bb) w w'
theorem KT(w:World)(b d:Nat)(m:Mem)(a c:Int)(H:dY w b d m)(n:0<=a)(h:a % 8=0)(i:c % 8=0)(o:c<=m.size)(v:16<=c-a) :
 Calls prog 123 #[cD b,I_ a,I_ c] w (Hh b d (dP.put m ⟨a,c-a,false⟩) a c w):=by
 have x:=H.le;have y:=H.lt;have s:(a % 8 != 0)=false:=by simp[h]
 have t:(c % 8 != 0)=false:=by simp[i]
 have u:decide ((m.size:Int)<c)=false:=decide_eq_false (by omega);have j:wG (w.alloc (.cells #[cD b,I_ a,I_ c] 298)) w.heap.size b d m a c :=
  ⟨cx _ _,H.dC _,by omega,by omega,n,by omega,o⟩
 have f:=rq _ _ _ _ _ _ _ ⟨a,c-a,false⟩ j (by simp only;omega) (by simp only;omega);have p:=js w b d m H;have k:=Mem.cQ m a (c-a);have g:Hid ((dP.put m ⟨a,c-a,false⟩).1.size=m.size):=k;unfold nr.val at f;simp only at f;generalize dP.put m ⟨a,c-a,false⟩=r at f g |-;clear k H h i;go_enter func123,ntmps123;go_wp2_with fail;refine eD p ?_;go_wp2_with fail;refine f.mono ?_;rintro e z ⟨rfl,q,l⟩;go_wp2;go_ret2;exact⟨w.heap.size,rfl,j.with q g.out l,Nat.le_refl _,((cq.alloc _ _ _).trans l)⟩
theorem Hi(w:World)(n:Int)(h:0<=n)(i:n<=1048576):Calls prog 414 #[I_ n] w fun e w'=>e=.returned (I_ (dP.rX n))/\w=w':=by
 have c:=uW (n+15) (by omega) (by omega);have d:n+15-(n+15) % 8=(n+15) / 8*8:=by omega
 rw[d]at c;have b:Hid (dP.rX n=if 16<(n+15) / 8*8 then(n+15) / 8*8 else 16):=rfl;have g:n+16-1=n+15:=by omega
 clear d;generalize (n+15) / 8*8=q at c b;generalize dP.rX n=r at b |-;by_cases f:16<q
 . have a:=b.out
   rw[if_pos f]at a;subst a;go_enter func414,ntmps414;go_wp2;go_ret;first | exact⟨rfl,rfl⟩ | (refine⟨?_,rfl⟩;show Ending.returned (I_ (max 16 r))=_;rw[Int.max_eq_right (by omega)])
 . have a:=b.out
   rw[if_neg f]at a;subst a;go_enter func414,ntmps414;go_wp2;go_ret;first | exact⟨rfl,rfl⟩ | (refine⟨?_,rfl⟩;show Ending.returned (I_ (max 16 q))=_;rw[Int.max_eq_left (by omega)])
end Go.Proofs.dS
