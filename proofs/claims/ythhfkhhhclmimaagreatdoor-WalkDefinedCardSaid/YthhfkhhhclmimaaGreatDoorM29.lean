/- A part of WalkG. No condition. -/
import Derived.Test.YthhfkhhhclmimaaGreatDoorM10
import Derived.Test.YthhfkhhhclmimaaGreatDoorM28
import Derived.Test.YthhfkhhhclmimaaGreatDoorM02
set_option linter.unusedVariables false
set_option linter.unusedSimpArgs false
open Go.Proofs.Tryz
set_option maxRecDepth 10000
set_option maxHeartbeats 4000000
namespace Go.Proofs.dS
open Go Go.RowKit Go.Proofs.K
def Fj(n:Int)(c:UInt8):Int:=Go.bits .xor .u32 n ((c.toNat:Int) % 4294967296)*16777619 % 4294967296
def xF(s:List UInt8)(n:Int):Int:=s.foldl Fj n
def pP(s:List UInt8):Int:=xF s 2166136261
theorem Fl(s:List UInt8):0<=pP s/\pP s<4294967296:=by
 have h:∀ (l:List UInt8) (n:Int),0<=n/\n<4294967296->0<=xF l n/\xF l n<4294967296:=by
  intro l;induction l with
  | nil=>exact fun n h=>h
  | cons c l a =>
   intro n _;refine a (Fj n c) ?_;unfold Fj;omega
 exact h s _ (by decide)
theorem AS(w:World)(s:List UInt8)(o:s.length<=4194304):Calls prog 424 #[S_ s] w fun e w'=>e=.returned (.int .u32 (pP s))/\w=w':=by
 have b:=show pP s=xF (s.drop 0) 2166136261 from rfl;generalize pP s=q at b |-;go_enter func424,ntmps424;go_wp2_with fail
 go_loopw [3,7] (fun j c wr=>∃ (i:Nat) (n:Int),c=I_ i/\j=.int .u32 n/\i<=s.length/\q=xF (s.drop i) n/\w=wr) (fun _ c _=>s.length-(intOf c).toNat)
 case atStart=>exact⟨0,_,rfl,rfl,Nat.zero_le _,b,rfl⟩
 case round =>
  obtain⟨i,n,rfl,rfl,m,a,rfl⟩:=hrel;by_cases d:i<s.length
  . have k:(i:Int)<s.length:=by omega
    rw[List.drop_eq_getElem_cons d]at a;have f:=show q=xF (s.drop (i+1)) (Fj n s[i]) from a;clear a b;have l:wrap64 ((i:Int)+1)=(i:Int)+1:=IntWalk.wrap64_in _ (by omega);go_wp2;go_roundw;case rel=>exact⟨i+1,_,rfl,rfl,d,f,trivial⟩
    case measure=>simp[intOf];omega
  . have g:i=s.length:=by omega
    subst g;rw[List.drop_length]at a;have h:q=n:=a;clear a b;subst h;go_wp2;go_ret;exact⟨rfl,rfl⟩
def eY(s:List UInt8):Int × Int × List UInt8:=(pP (cG s),(cG s).length,cG s)
theorem Dy(s:List UInt8):(cG s).length=s.length:=by unfold cG;rw[List.length_map]
theorem sD(s:List UInt8)(a:s.length<=4194304):xv (eY s) :=
 ⟨Rl (Fl _).1 (Fl _).2,wf_i64 (by show(-9223372036854775808:Int)<=((cG s).length:Int);omega) (by show((cG s).length:Int)<=_;rw[Dy];omega),by show(cG s).length<=_;rw[Dy];unfold maxLen;omega⟩
theorem Tr{w:World}{g:Nat}{d e f:Value}{t:TypeId}(h:w.heap[g]?=some (.cells #[d,e,f] t (0,0)))(a b c:Value) :
 (((w.setCell ⟨g,0,none⟩ a).setCell ⟨g,1,none⟩ b).setCell ⟨g,2,none⟩ c).heap[g]?=some (.cells #[a,b,c] t (0,0)) :=
 cz (i:=2) (cz (i:=1) (cz (i:=0) h a) b) c
theorem AT{S:Nat->Prop}{b w:World}(k:cq S b w)(g:Nat)(c d e:Value)(a:b.heap.size<=g):cq S b (((w.setCell ⟨g,0,none⟩ c).setCell ⟨g,1,none⟩ d).setCell ⟨g,2,none⟩ e) :=
 ((k.dW ⟨g,0,none⟩ c a).dW ⟨g,1,none⟩ d a).dW ⟨g,2,none⟩ e a
theorem xG(w:World)(s:List UInt8)(m:s.length<=4194304):Calls prog 390 #[S_ s] w fun e w'=>e=.returned (mz (eY s))/\K_ w w':=by
 have j:=fun V=>iC V s m;have d:=fun V=>AS V (cG s) (by rw[Dy];exact m);have c:=show mz (eY s)=.agg #[.int .u32 (pP (cG s)),I_ (cG s).length,S_ (cG s)] from rfl;generalize mz (eY s)=k at c |-;generalize pP (cG s)=h at d c;generalize cG s=l at j d c;go_enter func390,ntmps390;go_wp2_with fail;refine(j _).mono ?_;rintro e b ⟨rfl,g⟩;have a:=g.heap (cx w (.cells #[.int .u32 0,I_ 0,.string ⟨#[]⟩] 389)) id;have x:C_ b w.heap.size 0=some (.int .u32 0):=cp a rfl;have y:C_ b w.heap.size 1=some (I_ 0):=cp a rfl;have z:C_ b w.heap.size 2=some (.string ⟨#[]⟩):=cp a rfl;have r:b.frozen? ⟨w.heap.size,0,none⟩=false:=cB a;have t:b.frozen? ⟨w.heap.size,1,none⟩=false:=cB a;have u:b.frozen? ⟨w.heap.size,2,none⟩=false:=cB a;have n:=(dR w _).trans g;clear g;go_wp2_with fail;refine eD (d _) ?_;go_wp2_with fail;have f:=Tr a (.int .u32 h) (I_ (l.length:Int)) (S_ l);have o:=cp (i:=0) f rfl;have p:=cp (i:=1) f rfl;have q:=cp (i:=2) f rfl;exact bodyPost_ret (v:=.agg #[.int .u32 h,I_ (l.length:Int),S_ l]) (by simp[results,results390,go_sem,o,p,q]) rfl ⟨by rw[c],AT n _ _ _ _ (Nat.le_refl _)⟩
def Dz(L:List (List UInt8)):List Value:=L.map fun s=>S_ s
open Classical in
noncomputable def wL(L:List (List UInt8))(p:OI):Option Value:=if p.1.1=pP p.1.2.2/\p.1.2.1=p.1.2.2.length/\p.1.2.2 ∈ L then some (I_ ((L.idxOf p.1.2.2+1:Nat):Int))else none
structure RG(w:World)(nm im:Nat)(a:Option Addr)(c:Nat)(L:List (List UInt8)):Prop where
 head:w.heap[nm]?=some (.cells #[.map (some im),.slice a L.length c,I_ 1024] 293 (0,0))
 own:fp w 9 1 a L.length c (Dz L)
 Jh:cX nL w im L.length (wL L)
 gm:L.length<=1024
 QG:L.Nodup
theorem Fm(w:World):(zeroValue 2).run prog w=.ok (I_ 0) w:=by kernel_rfl
theorem LJ(L:List (List UInt8))(s:List UInt8)(a:xv (eY s)):(wL L ⟨eY s,a⟩).getD (I_ 0)=I_ (fi L s):=by
 unfold wL fi eY;by_cases h:cG s ∈ L
 . rw[if_pos ⟨rfl,rfl,h⟩,if_pos h];rfl
 . rw[if_neg (fun e=>h e.2.2),if_neg h];rfl
theorem tm(w:World)(nm g:Nat)(a:Option Addr)(c:Nat)(L:List (List UInt8))(s:List UInt8)(b:s.length<=4194304)(h:RG w nm g a c L) :
 Calls prog 276 #[cD nm,S_ s] w fun e w'=>e=.returned (I_ (fi L s))/\K_ w w':=by
 have d:=fun V=>xG V s b;have n:=h.Jh;have i:=LJ L s (sD s b);have m:C_ w nm 0=some (.map (some g)):=cp h.head rfl;have j:mz (eY s)=nL.val ⟨eY s,sD s b⟩:=rfl;rw[j]at d;generalize (⟨eY s,sD s b⟩:OI)=k at d i;clear h j;go_enter func276,ntmps276;go_wp2_with fail
 go_region_held3 (fun w'=>C_ w' nm 0=some (.map (some g)))
  (first | exact m | exact p)
  (first | (go_at_call 390;refine(d w.drew).mono ?_;rintro e q ⟨rfl,l⟩;dsimp only;have f:=(fw w).trans l;clear l;have p:=f.cell m id;have o:=uT nL 291 _ underlying291 (n.ct f id) _ (Fm _) k trivial;rw[i]at o))
 go_wp2;go_ret;exact⟨rfl,f⟩
theorem Pd:(prog.info? 9).map (fun i=>(i.zero,i.size,i.bytes))=some (some (.string ⟨#[]⟩),1,16):=by kernel_rfl
def RH(nm im:Nat)(a:Option Addr)(q:List (List UInt8) × Int × Int)(w:World)(e:Ending)(w':World):Prop :=
 e=.returned (.tuple #[I_ q.2.1,I_ q.2.2])/\∃ a' c',RG w' nm im a' c' q.1/\cq (fun g=>g=nm\/g=im\/dF a=some g) w w'/\(dF a'=dF a\/∃ k,dF a'=some k/\w.heap.size<=k)
theorem DC{w:World}{e:TypeId}{o n c:Nat}{a:Option Addr}{p:List Value}(h:fp w e o a n c p){g:Nat}{j:Array Value}{t:TypeId}{f:Nat × Nat}(b:w.heap[g]?=some (.cells j t f))(m:(e == t)=false):dF a≠some g:=by
 intro d;rcases h.jK with⟨i,_⟩ | ⟨k,cur,i,l,_⟩
 . rw[i]at d;cases d
 . rw[i]at d
   have:k=g:=by simpa[dF] using d
   subst this;rw[l]at b;injection b with b;injection b with _ b _;subst b;simp at m
theorem RG.ct{w w':World}{nm b:Nat}{a:Option Addr}{c:Nat}{L:List (List UInt8)}{S:Nat->Prop}(h:RG w nm b a c L)(k:cq S w w')(d:¬ S nm)(e:¬ S b)(f:∀ g,dF a=some g->¬ S g):RG w' nm b a c L :=
 ⟨k.heap h.head d,h.own.ct k f,h.Jh.ct k e,h.gm,h.QG⟩
theorem LL(L:List (List UInt8))(s:List UInt8)(d:xv (eY s))(h:cG s ∉ L)(N:Nat)(f:N=L.length+1):wL (L++[cG s])=ny (wL L) ⟨eY s,d⟩ (I_ N):=by
 funext p;unfold ny;by_cases c:p=⟨eY s,d⟩
 . subst c
   rw[if_pos rfl];unfold wL eY;rw[if_pos ⟨rfl,rfl,by simp⟩,List.idxOf_append];simp[h,f]
 . rw[if_neg c]
   unfold wL;by_cases a:p.1.1=pP p.1.2.2/\p.1.2.1=p.1.2.2.length
   . have g:p.1.2.2≠cG s:=by
      intro e;apply c;apply Subtype.ext;rw[e]at a;exact Prod.ext a.1 (Prod.ext a.2 e)
     by_cases b:p.1.2.2 ∈ L
     . rw[if_pos ⟨a.1,a.2,by simp[b]⟩,if_pos ⟨a.1,a.2,b⟩,List.idxOf_append,if_pos b]
     . rw[if_neg (fun e=>by have:=e.2.2;simp[b,g]at this),if_neg (fun e=>b e.2.2)]
   . rw[if_neg (fun e=>a ⟨e.1,e.2.1⟩),if_neg (fun e=>a ⟨e.1,e.2.1⟩)]
theorem DD(w:World)(nm f:Nat)(a:Option Addr)(c:Nat)(L:List (List UInt8))(s:List UInt8)(J:s.length<=4194304)(h:RG w nm f a c L) :
 Calls prog 269 #[cD nm,S_ s] w (RH nm f a (gu L s) w):=by
 have C:=tm w nm f a c L s J h;have o:gu L s=if 0<fi L s then(L,fi L s,0)else if s=[]\/31<s.length then(L,0,-16)else if 1024<=L.length then(L,0,-2051)else(L++[cG s],((L.length+1:Nat):Int),0):=rfl;have Q:fi L s=(if cG s ∈ L then((L.idxOf (cG s)+1:Nat):Int)else(0:Int)):=rfl;generalize gu L s=q at o |-;by_cases n:0<fi L s
 . rw[if_pos n]at o
   clear Q;generalize fi L s=d at C o n;have d1:decide (d > 0)=true:=decide_eq_true n;go_enter func269,ntmps269;go_wp2_with fail;refine C.mono ?_;rintro e X ⟨rfl,l⟩;go_wp2;go_ret2;rw[o];exact⟨rfl,a,c,h.ct l id id (fun _ _=>id),l.mono (fun _ _ e=>e.elim),.inl rfl⟩
 . rw[if_neg n]at o
   have I:cG s ∉ L:=by
    intro hm;rw[if_pos hm]at Q;omega
   have h0:fi L s=0:=by rw[if_neg I]at Q;exact Q
   rw[h0]at C;clear Q n h0;by_cases v:s=[]\/31<s.length
   . rw[if_pos v]at o
     by_cases G:s=[]
     . subst G
       clear v J I;go_enter func269,ntmps269;go_wp2_with fail;refine C.mono ?_;rintro e X ⟨rfl,l⟩;go_wp2;go_ret2;rw[o];exact⟨rfl,a,c,h.ct l id id (fun _ _=>id),l.mono (fun _ _ e=>e.elim),.inl rfl⟩
     . have d0:s.isEmpty=false:=by cases s with | nil=>exact absurd rfl G | cons=>rfl
       have d1:decide ((31:Int)<(s.length:Int))=true:=decide_eq_true (by rcases v with h | h;exact absurd h G;omega);clear v G I;go_enter func269,ntmps269;go_wp2_with fail;refine C.mono ?_;rintro e X ⟨rfl,l⟩;go_wp2;go_ret2;rw[o];exact⟨rfl,a,c,h.ct l id id (fun _ _=>id),l.mono (fun _ _ e=>e.elim),.inl rfl⟩
   . rw[if_neg v]at o
     have d0:s.isEmpty=false:=by cases s with | nil=>exact absurd (.inl rfl) v | cons=>rfl
     have d1:decide ((31:Int)<(s.length:Int))=false:=decide_eq_false (fun h=>v (.inr (by omega)));have A:C_ w nm 1=some (.slice a L.length c):=cp h.head rfl;have K:C_ w nm 2=some (I_ 1024):=cp h.head rfl;by_cases G:1024<=L.length
     . rw[if_pos G]at o
       have d2:decide ((1024:Int)<=(L.length:Int))=true:=decide_eq_true (by omega);clear v I;go_enter func269,ntmps269;go_wp2_with fail;refine C.mono ?_;rintro e X ⟨rfl,l⟩;have A:=l.cell A id;have K:=l.cell K id;go_wp2_with fail;go_region
       go_wp2;go_ret2;rw[o];exact⟨rfl,a,c,h.ct (l.trans (fw _)) id id (fun _ _=>id),(l.trans (fw _)).mono (fun _ _ e=>e.elim),.inl rfl⟩
     . rw[if_neg G]at o
       have d2:decide ((1024:Int)<=(L.length:Int))=false:=decide_eq_false (by omega);have HO:=fun V=>xG V s J;clear v;go_enter func269,ntmps269;go_wp2_with fail;refine C.mono ?_;rintro e X ⟨rfl,l⟩;have A:=l.cell A id;have K:=l.cell K id;go_wp2_with fail;go_region
       go_wp2_with fail;refine(HO _).mono ?_;rintro e Y ⟨rfl,k2⟩;have K2:=(l.trans (fw _)).trans k2;have A:=(k2.cell (show X.drew.cell? ⟨nm,1,none⟩=_ from A) id);clear k2;dsimp only[mz,eY];go_wp2_with fail;have H:=cx Y (.cells #[.int .u32 (pP (cG s)),I_ (cG s).length,S_ (cG s)] 389);have t:=K2.trans (dR Y (.cells #[.int .u32 (pP (cG s)),I_ (cG s).length,S_ (cG s)] 389));have LG:=show w.heap.size<=Y.heap.size from K2.size;obtain⟨gk,an⟩:∃ gk,gk=Y.heap.size:=⟨_,rfl⟩;rw[<- an]at H LG |-;clear A K l K2 an C HO;generalize Y.alloc (.cells #[.int .u32 (pP (cG s)),I_ (cG s).length,S_ (cG s)] 389)=m at H t |-;have A:C_ m nm 1=some (.slice a L.length c):=t.cell (cp h.head rfl) id;have f1:m.frozen? ⟨nm,1,none⟩=false:=t.frozen (cB h.head) (cA h.head) id;have O:C_ m gk 2=some (S_ (cG s)):=cp H rfl;have ow:=h.own.ct t (fun _ _=>id);have Z:=h_ H;have ax:=cA H;have ay:=Nat.lt_of_lt_of_le (cA h.head) t.size;clear H;have U:dF a≠some nm:=DC h.own h.head rfl
       go_cut [7] (fun v7 wx=>v7=cD gk/\∃ a' c' b,wx=b.setCell ⟨nm,1,none⟩ (.slice a' (L.length+1) c')/\fp b 9 1 a' (L.length+1) c' (Dz L++[S_ (cG s)])/\cq (fun k=>dF a=some k) m b/\(dF a'=dF a\/∃ k,dF a'=some k/\m.heap.size<=k))
       case first =>
        have az:L.length+1<=maxLen:=by unfold maxLen;omega
        have aw:(L.length+1)*16<=140737488355328:=by omega
        have aF:=ow.ct ((dR m (.cells #[S_ (cG s)] 9)).trans (cq.drew _ _)) (fun _ _=>id);have au:∀ j u,[Value.string ⟨(cG s).toArray⟩][j]?=some u->(m.alloc (.cells #[S_ (cG s)] 9)).drew.cell? ((⟨m.heap.size,0,none⟩:Addr).add j)=some u:=by
         intro j u hu;cases j with
         | zero=>cases hu;exact cp (cx m _) rfl
         | succ j=>simp at hu
        have aE:∀ u ∈ [Value.string ⟨(cG s).toArray⟩],u.oneCell'=true:=by intro u hu;rw[List.mem_singleton.1 hu];rfl
        have kN:=(dR m (.cells #[S_ (cG s)] 9)).trans (fw _);have zN:(m.alloc (.cells #[S_ (cG s)] 9)).drew.heap.size=m.heap.size+1:=World.size_alloc _ _;have kX:∀ b,cq (fun k=>dF a=some k) (m.alloc (.cells #[S_ (cG s)] 9)).drew b->cq (fun k=>dF a=some k) m b:=fun b p=>(kN.mono (fun _ _ e=>e.elim)).dh p (fun i hi e=>e);have aC:∀ b,cq (fun k=>dF a=some k) m b->C_ b nm 1=some (.slice a L.length c)/\b.frozen? ⟨nm,1,none⟩=false:=fun b p=>⟨p.cell A U,p.frozen f1 ay U⟩
        go_region_law (first
         | (refine uF rfl (.tmp 41) (.tmp 44) 30 rfl 9 _ 1 16 underlying30 Pd rfl (by decide) a L.length c (Dz L) rfl aF ⟨m.heap.size,0,none⟩ 1 1 [S_ (cG s)] rfl rfl au aE az aw ?_
            intro r z b W p T;have aq:=kX b p
            obtain⟨q1,q2⟩:=aC b aq))
        all_goals
         go_wp2;go_meet;exact⟨rfl,_,_,_,rfl,W,aq,T.imp id fun e=>⟨_,e,by rw[zN];omega⟩⟩
       case rest =>
        obtain⟨rfl,r,z,b,rfl,W,p,T⟩:=hcut;have aG:=Nat.lt_of_lt_of_le ax p.size;have ai:gk≠nm:=by
         intro e;have n:=t.heap h.head id;rw[<- e,Z.out]at n;injection n with n;injection n with _ n _;exact absurd n (by decide)
        have ar:dF a≠some gk:=DC ow Z.out rfl;have aj:f≠nm:=fun e=>cX.jt h.Jh _ _ _ (by rw[e];exact h.head);have ah:dF a≠some f:=by
         intro e1;rcases h.own.jK with⟨F,_⟩ | ⟨O,cur,F,v,_⟩
         . rw[F]at e1;cases e1
         . rw[F]at e1
           have:O=f:=by simpa[dF] using e1
           subst this;exact cX.jt h.Jh _ _ _ v
        have hG:=p.heap Z.out ar;have hN:=p.heap (t.heap h.head id) U;have hM:=(h.Jh.ct t id).ct p ah;obtain⟨N,ae⟩:∃ N,N=L.length+1:=⟨_,rfl⟩;rw[<- ae]at W |-;have R:=cq.setCell (S:=fun j=>j=nm) b ⟨nm,1,none⟩ (.slice r N z) (fun _=>rfl);have ab:(b.setCell ⟨nm,1,none⟩ (.slice r N z)).heap[nm]?=some (.cells #[.map (some f),.slice r N z,I_ 1024] 293 (0,0)):=cz (i:=1) hN _;have P:=R.heap hG ai;have aa:=hM.ct R aj;have aI:=cA h.head;have aD:dF r≠some nm:=by
         rcases T with e | ⟨k,e,hk⟩
         . rw[e];exact U
         . rw[e];intro F;have:k=nm:=Option.some.inj F;omega
        have am:=W.ct R (fun g hg e=>aD (by rw[hg,e]));have al:cq (fun g=>g=nm\/dF a=some g) w (b.setCell ⟨nm,1,none⟩ (.slice r N z)):=((t.mono (fun _ _ e=>e.elim)).dh p (fun i hi e=>.inr e)).dh R (fun i hi e=>.inl e);generalize b.setCell ⟨nm,1,none⟩ (.slice r N z)=D at ab P aa am al |-;have m0:C_ D nm 0=some (.map (some f)):=cp ab rfl;have m1:C_ D nm 1=some (.slice r N z):=cp ab rfl;have g0:C_ D gk 0=some (.int .u32 (pP (cG s))):=cp P rfl;have g1:C_ D gk 1=some (I_ (cG s).length):=cp P rfl;have O:C_ D gk 2=some (S_ (cG s)):=cp P rfl;obtain⟨B,ap,ao,k8⟩:=Fa nL 291 _ underlying291 (aa.ct (fw D) id) (by unfold maxLen;omega) ⟨eY s,sD s J⟩ trivial (I_ N);have aB:(Instr.mapUpdate 291 (.map (some f)) (.agg #[.int .u32 (pP (cG s)),I_ (cG s).length,S_ (cG s)]) (I_ N)).run prog D.drew=.ok () B:=ap;have E:=(cq.drew (fun g=>g=f) D).trans k8;have M:=h_ ae;have ak:=t.size;have ad:=h_ (And.intro aj (And.intro ah ai));have ac:=h_ (show gk≠f from fun e=>cX.jt aa _ _ _ (by rw[<- e];exact P));clear ap k8 ae aa aj ah ai ar hG hN hM W p R t Z ow A f1 U K;go_wp2_with fail;go_region
        have m0:C_ B nm 0=some (.map (some f)):=E.cell m0 (fun e=>ad.out.1 e.symm);have g0:=E.cell g0 ac.out;have g1:=E.cell g1 ac.out;have O:=E.cell O ac.out;have ag:=uT nL 291 _ underlying291 (ao.ct (fw B) id) _ (Fm _) ⟨eY s,sD s J⟩ trivial;rw[ny,if_pos rfl]at ag;have aH:(Instr.lookup 291 (.map (some f)) (.agg #[.int .u32 (pP (cG s)),I_ (cG s).length,S_ (cG s)]) false).run prog B.drew=.ok (I_ N) B.drew:=ag;clear ag aB m1;go_wp2_with fail;go_region
        go_wp2;go_ret2;have KE:=(fw B);have n:=M.out;have av:cq (fun g=>g=nm\/g=f\/dF a=some g) w B:=(al.mono (fun _ _ e=>e.elim .inl (fun e=>.inr (.inr e)))).dh E (fun i hi e=>.inr (.inl e));have af:(L++[cG s]).length=N:=by rw[List.length_append,M.out];rfl
        have aA:dF r≠some f:=by
         rcases T with e | ⟨k,e,hk⟩
         . rw[e];exact ad.out.2.1
         . rw[e];intro F
           have:k=f:=Option.some.inj F;have:=h.Jh.lt;have:=ak;omega
        rw[o,<- M.out];refine⟨rfl,r,z,⟨?_,?_,?_,?_,?_⟩,(av.dh KE (fun i hi e=>e.elim)),T.imp id fun⟨k,e,hk⟩=>⟨k,e,?_⟩⟩
        . show B.drew.heap[nm]?=some (.cells #[.map (some f),.slice r (L++[cG s]).length z,I_ 1024] 293 (0,0))
          rw[af];exact E.heap ab (fun e=>ad.out.1 e.symm)
        . show fp B.drew 9 1 r (L++[cG s]).length z (Dz (L++[cG s]))
          rw[af,show Dz (L++[cG s])=Dz L++[S_ (cG s)] from by simp[Dz]];exact(am.ct E (fun g hg e=>aA (by rw[hg,e]))).ct KE (fun _ _=>id)
        . show cX nL B.drew f (L++[cG s]).length (wL (L++[cG s]))
          rw[LL L s (sD s J) I N M.out];exact(ao.ct KE id).mono (by rw[af,M.out];exact Nat.le_refl _)
        . show(L++[cG s]).length<=1024
          omega
        . show(L++[cG s]).Nodup
          rw[List.nodup_append];exact⟨h.QG,by simp,fun x hx y hy e=>I (by rw[List.mem_singleton.1 hy]at e;rw[<- e];exact hx)⟩
        . have:=ak
          omega
end Go.Proofs.dS
