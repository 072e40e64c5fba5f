/- A part of WalkG. No condition. -/
import Derived.Test.YthhfkhhhclmimaaGreatDoorM27
import Derived.Test.YthhfkhhhclmimaaGreatDoorM13
set_option linter.unusedVariables false
set_option linter.unusedSimpArgs false
open Go.Proofs.Tryz
set_option maxRecDepth 10000
set_option maxHeartbeats 4000000
namespace Go.Proofs.dS
open Go Go.RowKit Go.Proofs.K
def Wd.val(d:Wd):Value:=.agg #[I_ d.cM,I_ d.xt,I_ d.cP,S_ d.name]
def fT:Option (Wd × Int)->Value
 | none=>.tuple #[Wd.none.val,I_ 0,.bool false]
 | some (d,l)=>.tuple #[d.val,I_ l,.bool true]
theorem lI{w:World}{g:Nat}{e f j a3:Value}{t:TypeId}(h:w.heap[g]?=some (.cells #[e,f,j,a3] t (0,0)))(a b c d:Value) :
 ((((w.setCell ⟨g,0,none⟩ a).setCell ⟨g,1,none⟩ b).setCell ⟨g,2,none⟩ c).setCell ⟨g,3,none⟩ d).heap[g]?=some (.cells #[a,b,c,d] t (0,0)) :=
 cz (i:=3) (cz (i:=2) (cz (i:=1) (cz (i:=0) h a) b) c) d
theorem ei{S:Nat->Prop}{b w:World}(k:cq S b w)(g:Nat)(c d e f:Value)(a:b.heap.size<=g):cq S b ((((w.setCell ⟨g,0,none⟩ c).setCell ⟨g,1,none⟩ d).setCell ⟨g,2,none⟩ e).setCell ⟨g,3,none⟩ f) :=
 (((k.dW ⟨g,0,none⟩ c a).dW ⟨g,1,none⟩ d a).dW ⟨g,2,none⟩ e a).dW ⟨g,3,none⟩ f a
theorem xE(w:World)(b F:Nat)(m:Mem)(a:Int)(h:dY w b F m)(U:0<=a)(V:a<=4194304) :
 Calls prog 89 #[cD b,I_ a] w fun e w'=>e=.returned (fT (m.Ym a))/\K_ w w':=by
 have g:Hid (m.Ym a=(if(m.cell a).2≠0\/(m.cell (a+8)).2≠0\/31<(m.cell (a+8)).1 % 256\/(m.cell (a+8)).1<0 then none
  else if(m.cell (a+16+Mem.dN ((m.cell (a+8)).1 % 256))).2≠0\/(m.dJ (a+16) ((m.cell (a+8)).1 % 256)).2≠0 then none
  else some (⟨a,a+16+Mem.dN ((m.cell (a+8)).1 % 256),(m.cell (a+8)).1 / 256,(m.dJ (a+16) ((m.cell (a+8)).1 % 256)).1⟩,(m.cell a).1))):=rfl
 generalize m.Ym a=r at g |-;have C:=h_ (h.dC (.cells #[I_ 0,I_ 0,I_ 0,.string ⟨#[]⟩] 53));have D:=h_ (eu _ b F m a C.out);have E:=h_ (eu _ b F m (a+8) C.out);generalize m.cell a=q0 at D g;obtain⟨v0,q⟩:=q0;generalize m.cell (a+8)=q1 at E g;obtain⟨d,u⟩:=q1;simp only at g D E;have A:=h_ (uG _ b F m (a+16) (d % 256) C.out);have y:=h_ (eu _ b F m (a+16+Mem.dN (d % 256)) C.out);generalize m.dJ (a+16) (d % 256)=q2 at A g;obtain⟨T,I⟩:=q2;have N:Mem.dN (d % 256)=(d % 256+7)-(d % 256+7) % 8:=by unfold Mem.dN;omega
 have O:=h_ N;generalize Mem.dN (d % 256)=z at y g O N;generalize m.cell (a+16+z)=q3 at y g;obtain⟨v3,B⟩:=q3;simp only at g A y;have t:=h_ (dR w (.cells #[I_ 0,I_ 0,I_ 0,.string ⟨#[]⟩] 53));have f:=h_ (cx w (.cells #[I_ 0,I_ 0,I_ 0,.string ⟨#[]⟩] 53));generalize Y:w.alloc (.cells #[I_ 0,I_ 0,I_ 0,.string ⟨#[]⟩] 53)=J at D E A y t f C;have Z:=OM d;have af:IntKind.i64.wrap (a+8)=a+8:=IntWalk.i64_in _ (by omega);have R:IntKind.i64.wrap (a+16)=a+16:=IntWalk.i64_in _ (by omega);have ab:0<=d % 256:=by omega
 have ac:d % 256<=255:=by omega
 have M:=uW (d % 256+7) (by omega) (by omega);rw[<- O.out,show d % 256+7=d % 256+8-1 by omega]at M;have aa:0<=z/\z<=262:=by omega
 obtain⟨ad,ae⟩:=aa;have S:IntKind.i64.wrap (a+16+z)=a+16+z:=IntWalk.i64_in _ (by omega);clear h N;generalize d % 256=n at *;go_enter func89,ntmps89;go_wp2_with fail;clear Y;refine eD D.out ?_;go_wp2_with fail;refine eD E.out ?_;have U:C_ J w.heap.size 0=some (I_ 0):=cp f.out rfl;have V:C_ J w.heap.size 1=some (I_ 0):=cp f.out rfl;have a2:C_ J w.heap.size 2=some (I_ 0):=cp f.out rfl;have a3:C_ J w.heap.size 3=some (.string ⟨#[]⟩):=cp f.out rfl;have f0:=cB (i:=0) f.out;have f1:=cB (i:=1) f.out;have f2:=cB (i:=2) f.out;have f3:=cB (i:=3) f.out;by_cases s:q≠0\/u≠0\/31<n\/d<0
 . have x:=g.out
   rw[if_pos s]at x;subst x;have L:q≠0\/(q=0/\u≠0)\/(q=0/\u=0/\31<n)\/(q=0/\u=0/\n<=31/\d<0):=by omega
   clear s g;clear y A R M S;rcases L with h | ⟨p,h⟩ | ⟨p,G,h⟩ | ⟨p,G,h3,h⟩
   . have H:(q != 0)=true:=by simp[h]
     clear h;go_wp2_with fail;have c:=lI f.out (I_ 0) (I_ 0) (I_ 0) (.string ⟨#[]⟩);have j:=cp (i:=0) c rfl;have k:=cp (i:=1) c rfl;have l:=cp (i:=2) c rfl;have o:=cp (i:=3) c rfl;exact bodyPost_ret (v:=fT none) (by simp[results,results89,go_sem,fT,Wd.val,Wd.none,j,k,l,o]) rfl ⟨rfl,ei t.out _ _ _ _ _ (Nat.le_refl _)⟩
   . have H:(q != 0)=false:=by simp[p]
     have K:(u != 0)=true:=by simp[h]
     clear h p;go_wp2_with fail;have c:=lI f.out (I_ 0) (I_ 0) (I_ 0) (.string ⟨#[]⟩);have j:=cp (i:=0) c rfl;have k:=cp (i:=1) c rfl;have l:=cp (i:=2) c rfl;have o:=cp (i:=3) c rfl;exact bodyPost_ret (v:=fT none) (by simp[results,results89,go_sem,fT,Wd.val,Wd.none,j,k,l,o]) rfl ⟨rfl,ei t.out _ _ _ _ _ (Nat.le_refl _)⟩
   . have H:(q != 0)=false:=by simp[p]
     have K:(u != 0)=false:=by simp[G]
     have P:decide (31<n)=true:=by simp[h]
     clear p G;go_wp2_with fail;have c:=lI f.out (I_ 0) (I_ 0) (I_ 0) (.string ⟨#[]⟩);have j:=cp (i:=0) c rfl;have k:=cp (i:=1) c rfl;have l:=cp (i:=2) c rfl;have o:=cp (i:=3) c rfl;exact bodyPost_ret (v:=fT none) (by simp[results,results89,go_sem,fT,Wd.val,Wd.none,j,k,l,o]) rfl ⟨rfl,ei t.out _ _ _ _ _ (Nat.le_refl _)⟩
   . have H:(q != 0)=false:=by simp[p]
     have K:(u != 0)=false:=by simp[G]
     have P:decide (31<n)=false:=by simp;omega
     have W:decide (d<0)=true:=by simp[h]
     clear p G;go_wp2_with fail;have c:=lI f.out (I_ 0) (I_ 0) (I_ 0) (.string ⟨#[]⟩);have j:=cp (i:=0) c rfl;have k:=cp (i:=1) c rfl;have l:=cp (i:=2) c rfl;have o:=cp (i:=3) c rfl;exact bodyPost_ret (v:=fT none) (by simp[results,results89,go_sem,fT,Wd.val,Wd.none,j,k,l,o]) rfl ⟨rfl,ei t.out _ _ _ _ _ (Nat.le_refl _)⟩
 . replace g:=h_ (g.out.trans (if_neg s))
   have H:(q != 0)=false:=by simp;omega
   have K:(u != 0)=false:=by simp;omega
   have P:decide (31<n)=false:=by simp;omega
   have W:decide (d<0)=false:=by simp;omega
   have hv:0<=d:=by omega
   clear s;go_wp2_with fail;refine eD A.out ?_;unfold JH;go_wp2_with fail;refine eD y.out ?_;clear y A Z R M S D E;by_cases s:B≠0\/I≠0
   . have x:=g.out
     rw[if_pos s]at x;subst x;have L:B≠0\/(B=0/\I≠0):=by omega
     clear s g;rcases L with h | ⟨p,h⟩
     . have Q:(B != 0)=true:=by simp[h]
       clear h;go_wp2_with fail;have c:=lI f.out (I_ 0) (I_ 0) (I_ 0) (.string ⟨#[]⟩);have j:=cp (i:=0) c rfl;have k:=cp (i:=1) c rfl;have l:=cp (i:=2) c rfl;have o:=cp (i:=3) c rfl;exact bodyPost_ret (v:=fT none) (by simp[results,results89,go_sem,fT,Wd.val,Wd.none,j,k,l,o]) rfl ⟨rfl,ei t.out _ _ _ _ _ (Nat.le_refl _)⟩
     . have Q:(B != 0)=false:=by simp[p]
       have X:(I != 0)=true:=by simp[h]
       clear h p;go_wp2_with fail;have c:=lI f.out (I_ 0) (I_ 0) (I_ 0) (.string ⟨#[]⟩);have j:=cp (i:=0) c rfl;have k:=cp (i:=1) c rfl;have l:=cp (i:=2) c rfl;have o:=cp (i:=3) c rfl;exact bodyPost_ret (v:=fT none) (by simp[results,results89,go_sem,fT,Wd.val,Wd.none,j,k,l,o]) rfl ⟨rfl,ei t.out _ _ _ _ _ (Nat.le_refl _)⟩
   . have x:=g.out
     rw[if_neg s]at x;subst x;have Q:(B != 0)=false:=by simp;omega
     have X:(I != 0)=false:=by simp;omega
     clear s g;go_wp2_with fail;have c:=lI f.out (I_ a) (I_ (a+16+z)) (I_ (d / 256)) (S_ T);have j:=cp (i:=0) c rfl;have k:=cp (i:=1) c rfl;have l:=cp (i:=2) c rfl;have o:=cp (i:=3) c rfl;exact bodyPost_ret (v:=fT (some (⟨a,a+16+z,d / 256,T⟩,v0))) (by simp[results,results89,go_sem,fT,Wd.val,Wd.none,j,k,l,o]) rfl ⟨rfl,ei t.out _ _ _ _ _ (Nat.le_refl _)⟩
theorem Ry:(prog.info? 53).map (fun i=>(i.zero,i.size,i.bytes))=some (some (.agg #[I_ 0,I_ 0,I_ 0,.string ⟨#[]⟩]),4,40):=by kernel_rfl
def Wd.cells(d:Wd):List Value:=[I_ d.cM,I_ d.xt,I_ d.cP,S_ d.name]
def sB(L:List Wd):List Value:=L.flatMap Wd.cells
theorem LF(L M:List Wd):sB (L++M)=sB L++sB M:=by simp[sB]
theorem rC(L:List Wd)(i:Nat)(a:i<L.length)(f:Nat)(c:f<4):(sB L)[i*4+f]?=(L[i]).cells[f]?:=by
 induction L generalizing i with
 | nil=>simp at a
 | cons d L b =>
  have:sB (d :: L)=d.cells++sB L:=by simp[sB]
  rw[this];cases i with
  | zero=>rw[List.getElem?_append_left (by simp[Wd.cells];omega)];simp
  | succ i =>
   rw[List.getElem?_append_right (by simp[Wd.cells];omega)];have e:(i+1)*4+f-d.cells.length=i*4+f:=by simp[Wd.cells];omega
   rw[e,b i (by simpa using a)];simp
def ju(W w:World)(a:Option Addr)(c:Nat)(L:List Wd):Prop:=fp w 53 4 a L.length c (sB L)/\∀ g,dF a=some g->W.heap.size<=g
def Pa(L:List Wd)(w:World)(e:Ending)(w':World):Prop:=∃ a c,e=.returned (.slice a L.length c)/\ju w w' a c L/\K_ w w'
theorem ju.ct{W w w':World}{a:Option Addr}{c:Nat}{L:List Wd}(h:ju W w a c L){S:Nat->Prop}(k:cq S w w')(b:∀ g,dF a=some g->¬ S g):ju W w' a c L:=⟨h.1.ct k b,h.2⟩
theorem ju.alloc{W w:World}{a:Option Addr}{c:Nat}{L:List Wd}(h:ju W w a c L)(o:Obj):ju W (w.alloc o) a c L:=h.ct (dR _ _) (fun _ _=>id)
theorem ju.ie{W w w':World}{a b:Option Addr}{c f:Nat}{L:List Wd}(h:ju W w a c L)(x:Wd)(o:fp w' 53 4 b (L.length+1) f (sB L++x.cells))(k:Nat)(l:dF b=dF a\/dF b=some k)(i:W.heap.size<=k):ju W w' b f (L++[x]):=by
 refine⟨?_,?_⟩
 . rw[LF,List.length_append]
   have:sB [x]=x.cells:=by simp[sB]
   rw[this];exact o
 . intro g d
   rcases l with e | e <;> rw[e]at d
   . exact h.2 g d
   . cases d;exact i
theorem ju.at{W w:World}{a:Option Addr}{c:Nat}{L:List Wd}(h:ju W w a c L){i:Nat}(b:i<L.length):∃ g,a=some ⟨g,0,none⟩/\W.heap.size<=g/\w.cell? ⟨g,i*4,none⟩=some (I_ L[i].cM) /\
 w.cell? ⟨g,i*4+1,none⟩=some (I_ L[i].xt)/\w.cell? ⟨g,i*4+2,none⟩=some (I_ L[i].cP)/\w.cell? ⟨g,i*4+3,none⟩=some (.string ⟨L[i].name.toArray⟩):=by
 rcases h.1.jK with⟨_,d,_⟩ | ⟨g,cur,rfl,_⟩
 . omega
 . refine⟨g,rfl,h.2 g rfl,?_,?_,?_,?_⟩
   . exact h.1.cell (j:=i*4) (by rw[show i*4=i*4+0 by omega,rC L i b 0 (by omega)];rfl)
   . exact h.1.cell (j:=i*4+1) (by rw[rC L i b 1 (by omega)];rfl)
   . exact h.1.cell (j:=i*4+2) (by rw[rC L i b 2 (by omega)];rfl)
   . exact h.1.cell (j:=i*4+3) (by rw[rC L i b 3 (by omega)];rfl)
theorem Pb(w:World)(x:Wd):∀ j u,x.cells[j]?=some u->(w.alloc (.cells #[I_ x.cM,I_ x.xt,I_ x.cP,S_ x.name] 53)).cell? ((⟨w.heap.size,0,none⟩:Addr).add j)=some u:=by
 intro j u a;rw[Addr.add_lit,Nat.zero_add];refine cp (cx _ _) ?_;simpa[Wd.cells] using a
theorem Rz(x:Wd):∀ u ∈ x.cells,u.oneCell'=true:=by
 intro u a;simp[Wd.cells]at a;rcases a with rfl | rfl | rfl | rfl <;> rfl
theorem vi(w:World)(b C:Nat)(m:Mem)(k:Int)(h:dY w b C m) :
 Calls prog 75 #[cD b,I_ k] w (Pa (m.fR k) w):=by
 have al:=h.le;have ad:=Mem.rW m k;have v:Hid (m.fR k=if(m.cell k).2≠0 then [] else Mem.gT m m.size (m.cell k).1):=Mem.ur m k;generalize m.fR k=r at v ad |-;have I:=h_ fun w h=>eu w b C m k h;have J:=m.fh k;generalize m.cell k=q at I v J;obtain⟨s,G⟩:=q;simp only at v J I;have ae:=Mem.Cq m m.size s;go_enter func75,ntmps75;go_wp2_with fail;refine eD (I.out _ h) ?_;go_wp2_with fail;refine eD (js _ _ _ _ h) ?_;by_cases A:G=0
 . have n:=v.out
   rw[if_neg (by simpa using A)]at n;have ab:(G == 0)=true:=by simp[A]
   clear v A;go_wp2_with fail
   go_loopw [5,6,8] (fun ov Z K wr=>∃ (L:List Wd) (a:Option Addr) (c:Nat) (f o:Int),ov=.slice a L.length c/\Z=I_ f/\K=I_ o/\ju w wr a c L/\dY wr b C m/\K_ w wr /\
    L++Mem.gT m o f=Mem.gT m m.size s/\o<=4194304/\(-9223372036854775808<=f/\f<=9223372036854775807))
    (fun _ _ K _=>(intOf K).toNat)
   case atStart=>exact⟨[],none,0,s,m.size,rfl,rfl,rfl,⟨fp.nil _ _ _,by simp[dF]⟩,h,cq.refl _ _,rfl,by omega,J⟩
   case round =>
    obtain⟨L,a,c,f,o,rfl,rfl,rfl,u,D,t,H,ak,⟨ah,ai⟩⟩:=hrel;have ag:L.length<=m.size:=by
     rw[<- H,List.length_append]at ae;omega
    have B:=H;clear H;by_cases y:0<f/\f<o
    . obtain⟨g1,g2⟩:=y
      have S:=h_ (xE wr b C m f D (by omega) (by omega));have N:=Mem.zT m o f;have O:=fun d l=>Mem.sQ m o f ⟨g1,g2⟩ (d:=d) (l:=l);have M:=(show ∀ d l,m.Ym f=some (d,l) -> -9223372036854775808<=l/\l<=9223372036854775807 from fun d l e=>by rw[Mem.sR e];exact m.fh _);generalize m.Ym f=x at S N O M;go_wp2_with fail;refine S.out.mono ?_;rintro e E ⟨rfl,p⟩;have aj:w.heap.size<=E.heap.size:=(t.trans p).size;cases x with
      | none =>
       have j:=N rfl;have z:=(u.ct p (fun _ _=>id)).alloc (.cells #[I_ 0,I_ 0,I_ 0,.string ⟨#[]⟩] 53);have F:=(t.trans p).trans (dR _ (.cells #[I_ 0,I_ 0,I_ 0,.string ⟨#[]⟩] 53));unfold fT Wd.val Wd.none;clear p u D t;go_wp2;go_ret;have j:L=Mem.gT m m.size s:=by
        have:=B;rw[j,List.append_nil]at this;exact this
       refine⟨a,c,?_,?_,?_⟩
       . rw[n,<- j];rfl
       . rw[n,<- j];exact z
       . exact F
      | some x =>
       obtain⟨x,l⟩:=x;have j:=O x l rfl;have ac:=M x l rfl;have z:=(u.ct p (fun _ _=>id)).alloc (.cells #[I_ x.cM,I_ x.xt,I_ x.cP,S_ x.name] 53);have M2:=(D.ct p id id).dC (.cells #[I_ x.cM,I_ x.xt,I_ x.cP,S_ x.name] 53);have F:=(t.trans p).trans (dR _ (.cells #[I_ x.cM,I_ x.xt,I_ x.cP,S_ x.name] 53));have y:∀ g,dF a=some g->g<E.heap.size:=fun g hg=>(u.ct p (fun _ _=>id)).1.lt hg;have af:=h_ y;unfold fT Wd.val;clear p u D t y
       go_wp2_with (first
        | (at_builtin;refine eB rfl _ _ 166 rfl 53 _ 4 40 underlying166 Ry rfl (by decide) a L.length c (sB L) rfl (z.alloc _).1 ⟨E.heap.size+1,0,none⟩ 1 1 x.cells rfl rfl ?c1 (Rz x) ?c3 ?c4 ?_))
       case c1 =>
        have:=Pb (E.alloc (.cells #[I_ x.cM,I_ x.xt,I_ x.cP,S_ x.name] 53)) x;rw[World.size_alloc]at this;exact this
       case c3=>unfold maxLen;omega
       case c4=>omega
       intro Y c' w3 V T U;have P:=(F.trans (dR _ (.cells #[I_ x.cM,I_ x.xt,I_ x.cP,S_ x.name] 53))).dh T (fun i hi e=>absurd (z.2 i e) (by omega));have X:=(z.ie x V _ U (by omega));have R:(L++[x])++Mem.gT m f l=Mem.gT m m.size s:=by
        have:=B;rw[j]at this;simpa using this
       have W:=h_ R;clear T V U R;go_wp2;go_roundw;case rel =>
        refine⟨L++[x],Y,c',l,f,?_,rfl,rfl,X,h.ct P id id,P,W.out,by omega,ac⟩;rw[List.length_append];rfl
       case measure=>simp[intOf];omega
    . have j:=Mem.qg m o f y
      have aa:f<=0\/(0<f/\o<=f):=by omega
      clear y;rcases aa with Q | ⟨Q,h2⟩
      . have d1:decide (0<f)=false:=decide_eq_false (by omega)
        clear Q;go_wp2;go_ret;have j:L=Mem.gT m m.size s:=by
         have:=B;rw[j,List.append_nil]at this;exact this
        exact⟨a,c,by rw[n,<- j];rfl,by rw[n,<- j];exact u,t⟩
      . have d2:decide (f<o)=false:=decide_eq_false (by omega)
        clear h2;go_wp2;go_ret;have j:L=Mem.gT m m.size s:=by
         have:=B;rw[j,List.append_nil]at this;exact this
        exact⟨a,c,by rw[n,<- j];rfl,by rw[n,<- j];exact u,t⟩
 . have n:=v.out
   rw[if_pos A]at n;subst n;have ab:(G == 0)=false:=by simp[A]
   go_wp2_with fail;refine wp_loop_rounds 1 ?_;rw[rounds_succ];go_wp2;go_ret;exact⟨none,0,rfl,⟨fp.nil _ _ _,by simp[dF]⟩,cq.refl _ _⟩
def vV(low:List UInt8)(w:Wd):Bool:=decide (w.name=low) && decide (w.cP % 4<2)
theorem AP(m:Mem)(b:List UInt8)(a:Int)(r:List Int)(h:Mem.dv (m.fR a) (cG b)=none):m.find b (a :: r)=m.find b r:=by
 rw[Mem.find,h]
theorem AQ(m:Mem)(b:List UInt8)(a:Int)(r:List Int){d:Wd}(h:Mem.dv (m.fR a) (cG b)=some d):m.find b (a :: r)=some d:=by
 rw[Mem.find,h]
theorem Dv(a:List UInt8)(d:Wd)(l:List Wd)(h:vV a d=true):Mem.dv (d :: l) a=some d:=by
 unfold Mem.dv;rw[List.find?_cons_of_pos];exact h
theorem tk(a:List UInt8)(d:Wd)(l:List Wd)(h:vV a d=false):Mem.dv (d :: l) a=Mem.dv l a:=by
 unfold Mem.dv;rw[List.find?_cons_of_neg];intro e;have:vV a d=true:=e;rw[h]at this;cases this
def ot:Option Wd->Value
 | none=>.tuple #[Wd.none.val,.bool false]
 | some d=>.tuple #[d.val,.bool true]
theorem H3(w:World)(b bb:Nat)(m:Mem)(j:List UInt8)(Z:Option Addr)(s lc:Nat)(ls:List Int)(h:dY w b bb m)(V:j.length<=4194304)(hl:fp w 2 1 Z s lc (ls.map (Value.int .i64)))(ak:ls.length=s)(h6:s<=1000000) :
 Calls prog 42 #[cD b,S_ j,.slice Z s lc] w fun e w'=>e=.returned (ot (m.find j ls))/\K_ w w':=by
 have ad:=h_ fun w=>iC w j V;have aa:=h.dC (.cells #[I_ 0,I_ 0,I_ 0,.string ⟨#[]⟩] 53);have ac:=h_ (hl.ct (dR w (.cells #[I_ 0,I_ 0,I_ 0,.string ⟨#[]⟩] 53)) (fun _ _=>id));have E:=dR w (.cells #[I_ 0,I_ 0,I_ 0,.string ⟨#[]⟩] 53);have B:=cx w (.cells #[I_ 0,I_ 0,I_ 0,.string ⟨#[]⟩] 53);have N:=show ∀ a r,Mem.dv (m.fR a) (cG j)=none->m.find j (a :: r)=m.find j r from fun a r=>AP m j a r;have O:=h_ (show ∀ a r d,Mem.dv (m.fR a) (cG j)=some d->m.find j (a :: r)=some d from fun a r d=>AQ m j a r);have ae:=h_ (show m.find j []=none from rfl);have ab:=h_ ak;have ay:=h.le;generalize am:w.alloc (.cells #[I_ 0,I_ 0,I_ 0,.string ⟨#[]⟩] 53)=wa at aa ac E B;generalize cG j=t at ad N O;generalize m.find j=F at N O ae |-;clear h hl ak V;go_enter func42,ntmps42;go_wp2_with fail;clear am;refine(ad.out _).mono ?_;rintro e w1 ⟨rfl,k1⟩;go_wp2_with fail
 go_loopw [17] (fun W wr=>∃ i:Nat,W=I_ i/\i<=s/\F ls=F (ls.drop i)/\K_ wa wr) (fun W _=>s-(intOf W).toNat)
 case atStart=>exact⟨0,rfl,Nat.zero_le _,rfl,k1⟩
 case round =>
  obtain⟨i,rfl,hi,S,A⟩:=hrel;by_cases an:i<s
  . have U:i<ls.length:=by rw[ab.out];exact an
    have aw:(0:Int)<=(i:Int):=by omega
    obtain⟨g,hg,hc⟩:∃ g,Z=some ⟨g,0,none⟩/\C_ wr g i=some (I_ ls[i]):=by
     have ho:=ac.out.ct A (fun _ _=>id);rcases fp.jK ho with⟨_,V,_⟩ | ⟨g,cur,rfl,_⟩
     . omega
     . exact⟨g,rfl,fp.cell ho (by simp[U])⟩
    subst hg;have M:=List.drop_eq_getElem_cons U;generalize ls[i]=x at hc M;have al:=h_ (vi wr b bb m x (aa.ct A id id));have ap:=Mem.rW m x;have af:=h_ fun r=>N x r;have ag:=h_ fun r d=>O.out x r d;generalize m.fR x=L at al ap af ag;clear U;go_wp2_with fail;refine al.out.mono ?_;rintro e w2 ⟨a,c,rfl,o2,X⟩;have z:=A.trans X;have ar:=h_ X.size;clear X hc;go_wp2_with fail
    go_loopw [25] (fun Y wq=>∃ k:Nat,Y=I_ k/\k<=L.length/\Mem.dv L t=Mem.dv (L.drop k) t/\K_ w2 wq) (fun Y _=>L.length-(intOf Y).toNat)
    case atStart=>exact⟨0,rfl,Nat.zero_le _,rfl,cq.refl _ _⟩
    case round =>
     obtain⟨k,rfl,A,ah,ai⟩:=hrel;have I:=h_ ah;have u:=h_ ai;clear ah ai;by_cases aj:k<L.length
     . have ax:(0:Int)<=(k:Int):=by omega
       obtain⟨J,rfl,av,y0,y1,y2,y3⟩:=(o2.ct u.out (fun _ _=>id)).at aj;have H:=List.drop_eq_getElem_cons aj;generalize L[k]=d at y0 y1 y2 y3 H;obtain⟨p,q,l,n⟩:=d;simp only at y0 y1 y2 y3;have au:=Tj l;have G:=u.out.trans (dR wr (.cells #[I_ p,I_ q,I_ l,S_ n] 53));by_cases y:n=t
       . have c1:(n == t)=true:=by simp[y]
         by_cases K:l % 4<2
         . have c2:(l % 4 / 2*2 == 0)=true:=by simp;omega
           have D:=h_ (Dv t ⟨p,q,l,n⟩ (L.drop (k+1)) (by simp[vV,y,K]));have C:=h_ (show F ls=some ⟨p,q,l,n⟩ by rw[S,M];exact ag.out _ _ (by rw[I.out,H,D.out]));have aA:=E.size;have az:=((E.trans z).trans u.out).size;have ao:w.heap.size<wr.heap.size:=cA ((z.trans u.out).heap B id);have f:=(z.trans u.out).heap B id;have aq:=h_ ((z.trans G).heap B id);have a0:C_ wr w.heap.size 0=some (I_ 0):=cp f rfl;have a1:C_ wr w.heap.size 1=some (I_ 0):=cp f rfl;have a2:C_ wr w.heap.size 2=some (I_ 0):=cp f rfl;have a3:C_ wr w.heap.size 3=some (.string ⟨#[]⟩):=cp f rfl;have f0:=cB (i:=0) f;have f1:=cB (i:=1) f;have f2:=cB (i:=2) f;have f3:=cB (i:=3) f;clear y K;go_wp2_with fail;have o:=(dR _ (.cells #[I_ p,I_ q,I_ l,S_ n] 53)).heap (lI f (I_ p) (I_ q) (I_ l) (S_ n)) id;have P:=cp (i:=0) o rfl;have Q:=cp (i:=1) o rfl;have J:=cp (i:=2) o rfl;have R:=cp (i:=3) o rfl;exact bodyPost_ret (v:=ot (some ⟨p,q,l,n⟩)) (by simp[results,results42,go_sem,ot,Wd.val,Wd.none,P,Q,J,R]) rfl ⟨by rw[C.out],(ei ((E.trans z).trans u.out) _ _ _ _ _ (Nat.le_refl _)).trans (cq.alloc _ _ _)⟩
         . have c2:(l % 4 / 2*2 == 0)=false:=by simp;omega
           have D:=h_ (tk t ⟨p,q,l,n⟩ (L.drop (k+1)) (by simp[vV,K]));clear y K;go_wp2;go_roundw;case rel=>exact⟨k+1,by go_num,by omega,by rw[I.out,H,D.out],G⟩
           case measure=>simp[intOf];omega
       . have c1:(n == t)=false:=by simp[y]
         have D:=h_ (tk t ⟨p,q,l,n⟩ (L.drop (k+1)) (by simp[vV,y]));clear y;go_wp2;go_roundw;case rel=>exact⟨k+1,by go_num,by omega,by rw[I.out,H,D.out],G⟩
         case measure=>simp[intOf];omega
     . have T:k=L.length:=by omega
       have C:=h_ (show F ls=F (ls.drop (i+1)) by
        rw[S,M];refine af.out _ ?_;rw[I.out,T,List.drop_length]
        rfl)
       have G:=z.trans u.out;go_wp2;go_roundw;case rel=>exact⟨i+1,by go_num,by omega,C.out,G⟩
       case measure=>simp[intOf];omega
  . have T:i=s:=by omega
    have C:=h_ (show F ls=none by rw[S,T,<- ab.out,List.drop_length];exact ae.out);have f:=A.heap B id;have ao:w.heap.size<wr.heap.size:=cA f;have a0:C_ wr w.heap.size 0=some (I_ 0):=cp f rfl;have a1:C_ wr w.heap.size 1=some (I_ 0):=cp f rfl;have a2:C_ wr w.heap.size 2=some (I_ 0):=cp f rfl;have a3:C_ wr w.heap.size 3=some (.string ⟨#[]⟩):=cp f rfl;have f0:=cB (i:=0) f;have f1:=cB (i:=1) f;have f2:=cB (i:=2) f;have f3:=cB (i:=3) f;go_wp2_with fail;have o:=lI f (I_ 0) (I_ 0) (I_ 0) (.string ⟨#[]⟩);have P:=cp (i:=0) o rfl;have Q:=cp (i:=1) o rfl;have J:=cp (i:=2) o rfl;have R:=cp (i:=3) o rfl;exact bodyPost_ret (v:=ot none) (by simp[results,results42,go_sem,ot,Wd.val,Wd.none,P,Q,J,R]) rfl ⟨by rw[C.out],ei (E.trans A) _ _ _ _ _ (Nat.le_refl _)⟩
theorem Pc(w:World)(a b c d e f:Obj):∃ W,W=(((((w.alloc a).alloc b).alloc c).alloc d).alloc e).alloc f/\W.heap[w.heap.size]?=some a/\W.heap[w.heap.size+1]?=some b/\W.heap[w.heap.size+2]?=some c/\W.heap[w.heap.size+3]?=some d /\
 W.heap[w.heap.size+4]?=some e/\W.heap[w.heap.size+5]?=some f/\W.heap.size=w.heap.size+6/\K_ w W:=by
 refine⟨_,rfl,?_,?_,?_,?_,?_,?_,?_,?_⟩
 . exact(dp _ _ (by first | (simp;done) | (simp;omega))).trans ((dp _ _ (by first | (simp;done) | (simp;omega))).trans ((dp _ _ (by first | (simp;done) | (simp;omega))).trans ((dp _ _ (by first | (simp;done) | (simp;omega))).trans ((dp _ _ (by first | (simp;done) | (simp;omega))).trans (cx _ _)))))
 . exact(dp _ _ (by first | (simp;done) | (simp;omega))).trans ((dp _ _ (by first | (simp;done) | (simp;omega))).trans ((dp _ _ (by first | (simp;done) | (simp;omega))).trans ((dp _ _ (by first | (simp;done) | (simp;omega))).trans (kh _ _ _))))
 . refine(dp _ _ (by first | (simp;done) | (simp;omega))).trans ((dp _ _ (by first | (simp;done) | (simp;omega))).trans ((dp _ _ (by first | (simp;done) | (simp;omega))).trans ?_))
   have:=cx ((w.alloc a).alloc b) c;simpa using this
 . refine(dp _ _ (by first | (simp;done) | (simp;omega))).trans ((dp _ _ (by first | (simp;done) | (simp;omega))).trans ?_)
   have:=cx (((w.alloc a).alloc b).alloc c) d;simpa using this
 . refine(dp _ _ (by first | (simp;done) | (simp;omega))).trans ?_
   have:=cx ((((w.alloc a).alloc b).alloc c).alloc d) e;simpa using this
 . have:=cx (((((w.alloc a).alloc b).alloc c).alloc d).alloc e) f
   simpa using this
 . simp
 . exact((((((cq.alloc _ _ _).trans (cq.alloc _ _ _)).trans (cq.alloc _ _ _)).trans (cq.alloc _ _ _)).trans (cq.alloc _ _ _)).trans (cq.alloc _ _ _))
theorem fF(w:World)(g:Nat)(a b c d:Value):cq (fun k=>k=g) w ((((w.setCell ⟨g,0,none⟩ a).setCell ⟨g,1,none⟩ b).setCell ⟨g,2,none⟩ c).setCell ⟨g,3,none⟩ d):=by
 have e:cq (fun k=>k=g) w (w.setCell ⟨g,0,none⟩ a):=cq.setCell w ⟨g,0,none⟩ a (fun _=>rfl);have f:=e.trans (cq.setCell (S:=fun k=>k=g) (w.setCell ⟨g,0,none⟩ a) ⟨g,1,none⟩ b (fun _=>rfl));have h:=f.trans (cq.setCell (S:=fun k=>k=g) ((w.setCell ⟨g,0,none⟩ a).setCell ⟨g,1,none⟩ b) ⟨g,2,none⟩ c (fun _=>rfl));exact h.trans (cq.setCell (S:=fun k=>k=g) (((w.setCell ⟨g,0,none⟩ a).setCell ⟨g,1,none⟩ b).setCell ⟨g,2,none⟩ c) ⟨g,3,none⟩ d (fun _=>rfl))
def Dw(s b bb:Nat)(r:Sp × Wd × Int)(w:World)(e:Ending)(w':World):Prop :=
 e=.returned (.tuple #[r.2.1.val,I_ r.2.2])/\gR w' s b bb r.1/\cq (fun k=>k=s\/k=bb) w w'
abbrev Pt(n:Nat):Value:=cD n
def Dx(B g s g2:Nat):Array Value:=#[.func (.func 148) #[] #[Pt B,Pt g],.func (.func 149) #[] #[Pt B,Pt (B+1+1),Pt (B+1+1+1)],.func (.func 150) #[] #[Pt B,Pt g2],.func (.func 147) #[Pt s] #[],
 .func (.func 152) #[] #[Pt B,Pt g2,Pt (B+1+1+1+1)],.func (.func 153) #[] #[Pt B,Pt (B+1),Pt g2]]
structure Fi(B s g g2 gp:Nat)(l fl cd lk:Int)(name:List UInt8)(W:World):Prop where
 e0:W.heap[B]?=some (.cells #[cD s] 41 (0,0))
 e1:W.heap[B+1]?=some (.cells #[I_ l] 2 (0,0))
 e2:W.heap[B+2]?=some (.cells #[S_ name] 9 (0,0))
 e3:W.heap[B+3]?=some (.cells #[I_ fl] 2 (0,0))
 e4:W.heap[B+4]?=some (.cells #[I_ cd] 2 (0,0))
 e5:W.heap[B+5]?=some (.cells #[I_ 0,I_ 0,I_ 0,.string ⟨#[]⟩] 53 (0,0))
 eg:W.heap[g]?=some (.cells #[I_ lk] 2 (0,0))
 ep:W.heap[gp]?=some (.cells (Dx B g s g2) 80 (0,0))
theorem Fi.ct{B s g e a:Nat}{l d c f:Int}{i:List UInt8}{W b:World}(h:Fi B s g e a l d c f i W){S:Nat->Prop}(k:cq S W b)(n:∀ k,(B<=k/\k<=B+5)\/k=g\/k=a->¬ S k):Fi B s g e a l d c f i b :=
 ⟨k.heap h.e0 (n _ (by omega)),k.heap h.e1 (n _ (by omega)),k.heap h.e2 (n _ (by omega)),k.heap h.e3 (n _ (by omega)),k.heap h.e4 (n _ (by omega)),k.heap h.e5 (n _ (by omega)),k.heap h.eg (n _ (by omega)),k.heap h.ep (n _ (by omega))⟩
theorem vj{r:Sp × Wd × Int}(b:r.2.2=0){y:Sp}{q:Int}(z:q≠0->r=(y,Wd.none,q)):q=0:=Decidable.byContradiction fun a=>a (by have h:=z a;rw[h]at b;exact b)
theorem nQ(w:World)(s b bb:Nat)(x:Sp)(l:Int)(name:List UInt8)(fl cd:Int)(h:gR w s b bb x)(f0:0<=fl)(f1:fl<=255)(hok:(x.cO l name fl cd).2.2=0) :
 Calls prog 82 #[cD s,I_ l,S_ name,I_ fl,I_ cd] w (Dw s b bb (x.cO l name fl cd) w):=by
 obtain⟨wa,VC,x5,x6,x7,x8,x9,A0,hsz,ka⟩:=Pc w (.cells #[cD s] 41) (.cells #[I_ l] 2) (.cells #[S_ name] 9) (.cells #[I_ fl] 2) (.cells #[I_ cd] 2) (.cells #[I_ 0,I_ 0,I_ 0,.string ⟨#[]⟩] 53);have HW:=h_ VC.symm;clear VC;have c5:=cp (i:=0) x5 rfl;have c6:=cp (i:=0) x6 rfl;have c7:=cp (i:=0) x7 rfl;have c8:=cp (i:=0) x8 rfl;have c9:=cp (i:=0) x9 rfl;have X5:=h_ x5;have X6:=h_ x6;have X7:=h_ x7;have X8:=h_ x8;have X9:=h_ x9;have a0:C_ wa (w.heap.size+5) 0=some (I_ 0):=cp A0 rfl;have a1:C_ wa (w.heap.size+5) 1=some (I_ 0):=cp A0 rfl;have a2:C_ wa (w.heap.size+5) 2=some (I_ 0):=cp A0 rfl;have a3:C_ wa (w.heap.size+5) 3=some (.string ⟨#[]⟩):=cp A0 rfl;have b0:=cB (i:=0) A0;have b1:=cB (i:=1) A0;have b2:=cB (i:=2) A0;have b3:=cB (i:=3) A0;have AA:=h_ A0;have KA:=h_ ka;have H:=h_ (h.ct ka id id id);have hlt:s<w.heap.size/\b<w.heap.size/\bb<w.heap.size:=⟨cA h.head,h.mem.lt⟩;clear x5 x6 x7 x8 x9 A0 ka h;by_cases hbad:name=[]\/31<name.length
 . have hr:x.cO l name fl cd=(x,Wd.none,-16):=by unfold Sp.cO;rw[if_pos hbad]
   rw[hr]at hok;cases hok
 . obtain⟨q0,q1,q2,q3,q4,q5,q6,t0,t1,t2,t3,t4,t5,t6,z0,z1,z2,z3,z4,z5,z6,zf⟩:=Sp.qN x l name fl cd hbad
   generalize x.cO l name fl cd=r at hok z0 z1 z2 z3 z4 z5 z6 zf |-;have d1:(name == [])=false:=by simp;exact fun e=>hbad (.inl e)
   have hlen:name.length<=31:=by omega
   have hd:(name.length:Int)<=31:=by omega
   have d2:decide ((31:Int)<(name.length:Int))=false:=decide_eq_false (by omega);have UQ:=h_ fun V=>iC V name (by omega);have HC:=h_ fun V (k:K_ wa V)=>eu V b bb x.mem l ((H.out.ct k id id id).mem);have WO:=h_ hlt;clear hbad hlt;generalize x.mem.cell l=q at HC t0 t1;obtain⟨lk,e0⟩:=q;simp only at HC t0 t1;have VD:=h_ t0;have T1:=h_ t1;have T2:=h_ t2;have T3:=h_ t3;have T4:=h_ t4;have T5:=h_ t5;have T6:=h_ t6;have E0:=h_ (vj hok z0);have E1:=h_ (vj hok z1);have E2:=h_ (vj hok z2);have E3:=h_ (vj hok z3);have E4:=h_ (vj hok z4);have E5:=h_ (vj hok z5);have E6:=h_ (vj hok z6);have ZF:=h_ zf;clear hok t0 t1 t2 t3 t4 t5 t6 z0 z1 z2 z3 z4 z5 z6 zf;have s0:=H.out.c0;go_enter func82,ntmps82;go_upto_region 1 with fail;rw[HW.out];clear HW;go_wp2_with fail;refine eD (eJ wa s b bb x H.out) ?_;have LA:=h_ (show((wa.alloc (.cells #[I_ lk] 2)).drew).heap[w.heap.size+6]?=some (.cells #[I_ lk] 2 (0,0)) by rw[<- hsz];exact cx wa _);have LK:=h_ ((dR wa (.cells #[I_ lk] 2)).trans (cq.drew _ _));go_upto_region 6 with fail
   go_cut [13,14] (fun UR v14 wx=>∃ g:Nat,UR=cD g/\v14=I_ e0/\wx.heap[g]?=some (.cells #[I_ lk] 2 (0,0))/\wa.heap.size<=g/\K_ wa wx)
   case first =>
    go_region_held3 (fun w'=>C_ w' w.heap.size 0=some (cD s)/\C_ w' (w.heap.size+1) 0=some (I_ l)/\C_ w' s 0=some (cD b))
     (first | go_keep)
     ((go_at_call 81;refine eD (HC.out _ (by first | exact cq.drew _ _ | exact(cq.drew _ _).trans (cq.alloc _ _ _))) ?_;dsimp only))
    all_goals
     go_wp2;go_meet;exact⟨w.heap.size+6,rfl,rfl,LA.out,by omega,LK.out⟩
   case rest =>
    obtain⟨g,rfl,rfl,hg,hgl,kc⟩:=hcut;have KC:=h_ kc;have US:=h_ hg;clear hg kc;have c5:C_ wc w.heap.size 0=some (cD s):=KC.out.cell c5 id;have c7:C_ wc (w.heap.size+2) 0=some (S_ name):=KC.out.cell c7 id;have c8:C_ wc (w.heap.size+3) 0=some (I_ fl):=KC.out.cell c8 id;have hcs:=KC.out.size;have n8:wc.heap.size≠w.heap.size+3:=by omega
    have n7:wc.heap.size≠w.heap.size+2:=by omega
    have n8':w.heap.size+3≠wc.heap.size:=by omega
    have n7':w.heap.size+2≠wc.heap.size:=by omega
    go_upto_region 7 with fail
    go_cut [15] (fun v15 wx=>∃ g2:Nat,v15=cD g2/\eU g2 0 0 fl (cG name) wx/\wa.heap.size<=g2/\g≠g2/\K_ wc wx)
    case first =>
     go_region_held3 (fun w'=>C_ w' (w.heap.size+3) 0=some (I_ fl)/\C_ w' (w.heap.size+2) 0=some (S_ name))
      (first | go_keep)
      (first
        | (go_at_call 94;refine(UQ.out (wc.alloc (.cells #[I_ 0,I_ 0,I_ 0,.string ⟨#[]⟩] 53)).drew).mono ?_;rintro e w4 ⟨rfl,k4⟩;dsimp only
           have e8:C_ w4 (w.heap.size+3) 0=some (I_ fl):=k4.cell ((dR wc (.cells #[I_ 0,I_ 0,I_ 0,.string ⟨#[]⟩] 53)).cell c8 id) id;have e7:C_ w4 (w.heap.size+2) 0=some (S_ name):=k4.cell ((dR wc (.cells #[I_ 0,I_ 0,I_ 0,.string ⟨#[]⟩] 53)).cell c7 id) id;have hz:=k4.heap (show((wc.alloc (.cells #[I_ 0,I_ 0,I_ 0,.string ⟨#[]⟩] 53)).drew).heap[wc.heap.size]?=_ from cx wc _) id;have z0:C_ w4 wc.heap.size 0=some (I_ 0):=cp hz rfl;have z1:C_ w4 wc.heap.size 1=some (I_ 0):=cp hz rfl;have z2:C_ w4 wc.heap.size 2=some (I_ 0):=cp hz rfl;have z3:C_ w4 wc.heap.size 3=some (.string ⟨#[]⟩):=cp hz rfl;have q0:=cB (i:=0) hz;have q1:=cB (i:=1) hz;have q2:=cB (i:=2) hz
           have q3:=cB (i:=3) hz)
        | (go_at_call 94;refine(UQ.out wc.drew).mono ?_;rintro e w4 ⟨rfl,k4⟩;dsimp only
           have e8:C_ w4 (w.heap.size+3) 0=some (I_ fl):=k4.cell c8 id
           have e7:C_ w4 (w.heap.size+2) 0=some (S_ name):=k4.cell c7 id))
     all_goals
      have hg2:=cA US.out;go_wp2;go_meet;refine⟨_,rfl,?_⟩
      first
       | (have hB:=lI hz (I_ 0) (I_ 0) (I_ fl) (S_ (cG name))
          have kB:=ei ((dR wc (.cells #[I_ 0,I_ 0,I_ 0,.string ⟨#[]⟩] 53)).trans ((fw _).trans k4)) wc.heap.size (I_ 0) (I_ 0) (I_ fl) (S_ (cG name)) (Nat.le_refl _)
          exact⟨hB,by omega,by omega,kB⟩)
       | (have hs4:wc.heap.size<=w4.heap.size:=k4.size
          have kA:=((fw wc).trans k4).trans (dR w4 (.cells #[I_ 0,I_ 0,I_ fl,S_ (cG name)] 53));have hA:=cx w4 (.cells #[I_ 0,I_ 0,I_ fl,S_ (cG name)] 53)
          exact⟨hA,by omega,by omega,kA⟩)
    case rest =>
     obtain⟨g2,rfl,hw2,hg2,hgg,Uq⟩:=hcut;have UT:=h_ (KC.out.trans Uq);have W2:=h_ hw2;have G2:=h_ (Uq.heap US.out id);have hS:Hid (gR wc s b bb x):=h_ (H.out.ct UT.out id id id);have c5:C_ wc w.heap.size 0=some (cD s):=Uq.cell c5 id;clear hw2 Uq n8 n7 n8' n7'
     go_upto_if 46 with fail
     go_cut [14] (fun v14 wx=>v14=I_ q0.2/\gR wx s b bb q0.1/\cq (fun k=>k=s\/k=bb) wc wx)
     case first =>
      by_cases he:e0=0
      . have hq:=VD.out
        rw[if_pos he]at hq;have he':(e0 == 0)=true:=by simp[he]
        have HQ:=h_ hq;clear hq he;go_wp2_with fail;refine(lC wc s b bb x hS.out).mono ?_;rintro e w5 ⟨rfl,r5,k5⟩;have R5:=h_ r5;have K5:=h_ k5;clear r5 k5;go_wp2;go_meet;rw[HQ.out];exact⟨rfl,R5.out,K5.out⟩
      . have hq:=VD.out
        rw[if_neg he]at hq;have he':(e0 == 0)=false:=by simp[he]
        have HQ:=h_ hq;clear hq he;go_wp2;go_meet;rw[HQ.out];exact⟨rfl,hS.out,cq.refl _ _⟩
     case rest =>
      obtain⟨rfl,r6,k6⟩:=hcut;have hlt:=WO.out;have hwz:=KA.out.size;have KB:=h_ ((UT.out.mono (T:=fun k=>k=s\/k=bb) (fun _ _ e=>e.elim)).trans k6);have RW:=h_ r6;have WG:=h_ (show eU g2 0 0 fl (cG name) wc from k6.heap W2.out (fun e=>by rcases e with e | e <;> omega));have G3:=h_ (show wc.heap[g]?=some (.cells #[I_ lk] 2 (0,0)) from k6.heap G2.out (fun e=>by rcases e with e | e <;> omega));have UU:C_ wc w.heap.size 0=some (cD s):=cp (KB.out.heap X5.out (fun e=>by rcases e with e | e <;> omega)) rfl;have y0:C_ wc g2 0=some (I_ 0):=cp WG.out rfl;have y1:=cB (i:=0) WG.out;clear r6 k6 c5 UU;have UU:C_ wc w.heap.size 0=some (cD s):=cp (KB.out.heap X5.out (fun e=>by rcases e with e | e <;> omega)) rfl;have zK:=zK;have KD:=h_ ((KB.out.mono (T:=fun k=>k=s\/k=bb\/k=g2) (fun _ _ e=>by rcases e with e | e;exact .inl e;exact .inr (.inl e))).trans (cq.setCell wc ⟨g2,0,none⟩ (I_ q0.1.cu) (fun _=>.inr (.inr rfl))));have RD:=h_ (RW.out.ct (cq.setCell (S:=fun k=>k=g2) wc ⟨g2,0,none⟩ (I_ q0.1.cu) (fun _=>rfl)) (fun e=>by have e:s=g2:=e;omega) (fun e=>by have e:b=g2:=e;omega) (fun e=>by have e:bb=g2:=e;omega));have WD:=h_ (show eU g2 q0.1.cu 0 fl (cG name) (wc.setCell ⟨g2,0,none⟩ (I_ q0.1.cu)) from cz WG.out _);have GD:=h_ (show(wc.setCell ⟨g2,0,none⟩ (I_ q0.1.cu)).heap[g]?=some (.cells #[I_ lk] 2 (0,0)) from(CG (by omega) _).trans G3.out);go_wp2_with fail;refine eD (eJ wc s b bb _ RW.out) ?_;go_wp2_with fail;change Code.wp _ _ _ _ ((wc.setCell ⟨g2,0,none⟩ (I_ q0.1.cu)).alloc (.cells (Dx w.heap.size g s g2) 80));have UW:=cA WG.out;have UX:=cA G3.out;obtain⟨gp,RB⟩:∃ gp,gp=wc.heap.size:=⟨_,rfl⟩;rw[<- RB]at UW UX |-;have VE:=h_ RB;clear RB;have SW:=h_ (dR (wc.setCell ⟨g2,0,none⟩ (I_ q0.1.cu)) (.cells (Dx w.heap.size g s g2) 80))
      have SL:=h_ (show((wc.setCell ⟨g2,0,none⟩ (I_ q0.1.cu)).alloc (.cells (Dx w.heap.size g s g2) 80)).heap[gp]?=some (.cells (Dx w.heap.size g s g2) 80 (0,0)) by
       have:=cx (wc.setCell ⟨g2,0,none⟩ (I_ q0.1.cu)) (.cells (Dx w.heap.size g s g2) 80);rw[show(wc.setCell ⟨g2,0,none⟩ (I_ q0.1.cu)).heap.size=gp by rw[VE.out];simp]at this
       exact this)
      generalize hW:(wc.setCell ⟨g2,0,none⟩ (I_ q0.1.cu)).alloc (.cells (Dx w.heap.size g s g2) 80)=W at SW SL |-;clear hW;have KQ:=KD.out.trans (SW.out.mono (fun _ _ e=>e.elim));have nx:∀ k,w.heap.size<=k/\k<=w.heap.size+5->¬ (k=s\/k=bb\/k=g2):=fun k hk e=>by rcases e with e | e | e <;> omega
      have BX:=h_ (show Fi w.heap.size s g g2 gp l fl cd lk name W from⟨KQ.heap X5.out (nx _ (by omega)),KQ.heap X6.out (nx _ (by omega)),KQ.heap X7.out (nx _ (by omega)),KQ.heap X8.out (nx _ (by omega)),KQ.heap X9.out (nx _ (by omega)),KQ.heap AA.out (nx _ (by omega)),SW.out.heap GD.out id,SL.out⟩);have KW:=h_ ((KA.out.mono (T:=fun k=>k=s\/k=bb) (fun _ _ e=>e.elim)).dh KQ (fun i hi e=>by rcases e with e | e | e;exact .inl e;exact .inr e;omega));replace RW:=h_ (RD.out.ct SW.out id id id);replace WG:=h_ (show eU g2 q0.1.cu 0 fl (cG name) W from SW.out.heap WD.out id);clear KQ nx KD RD WD GD SW SL KB G3 KC UT W2 G2 hS US y0 y1 UU a0 a1 a2 a3 b0 b1 b2 b3 c6 c9 HC UQ LA LK;refine wp_loop_rounds 7 ?_;rw[rounds_succ];have cc:C_ W gp 0=some (.func (.func 148) #[] #[Pt w.heap.size,Pt g]):=cp BX.out.ep rfl;have he:q0.2=0:=E0.out;have dd:(q0.2 != 0)=false:=by simp[he]
      have hq:=h_ (T1.out he);clear he;go_wp2_with fail;refine(Ly W s b bb _ lk w.heap.size g RW.out (cp BX.out.e0 rfl) (cp BX.out.eg rfl)).mono ?_;rintro e W1 ⟨rfl,r1,k1⟩;rw[<- hq.out]at r1 |-;replace BX:=h_ (BX.out.ct k1 (fun k hk e=>by rcases e with e | e <;> omega));replace KW:=h_ (KW.out.trans k1);replace WG:=h_ (show eU g2 q0.1.cu 0 fl (cG name) W1 from k1.heap WG.out (fun e=>by rcases e with e | e <;> omega));replace RW:=h_ r1;clear r1 k1 cc dd hq;clear W
      rename World=>W
      go_wp2_with fail;rw[rounds_succ];have cc:C_ W gp 1=some (.func (.func 149) #[] #[Pt w.heap.size,Pt (w.heap.size+1+1),Pt (w.heap.size+1+1+1)]):=cp BX.out.ep rfl;have he:q1.2=0:=E1.out;have dd:(q1.2 != 0)=false:=by simp[he]
      have hq:=h_ (T2.out he);clear he;go_wp2_with fail;refine(Lz W s b bb _ name fl w.heap.size (w.heap.size+1+1) (w.heap.size+1+1+1) RW.out (cp BX.out.e0 rfl) (cp BX.out.e2 rfl) (cp BX.out.e3 rfl) hlen f0 f1).mono ?_;rintro e W1 ⟨rfl,r1,k1⟩;rw[<- hq.out]at r1 |-;replace BX:=h_ (BX.out.ct k1 (fun k hk e=>by rcases e with e | e <;> omega));replace KW:=h_ (KW.out.trans k1);replace WG:=h_ (show eU g2 q0.1.cu 0 fl (cG name) W1 from k1.heap WG.out (fun e=>by rcases e with e | e <;> omega));replace RW:=h_ r1;clear r1 k1 cc dd hq;clear W
      rename World=>W
      go_wp2_with fail;rw[rounds_succ];have cc:C_ W gp 2=some (.func (.func 150) #[] #[Pt w.heap.size,Pt g2]):=cp BX.out.ep rfl;have he:q2.2=0:=E2.out;have dd:(q2.2 != 0)=false:=by simp[he]
      have hq:=h_ (T3.out he);clear he;go_wp2_with fail;refine(LB W s b bb _ _ _ _ (cG name) w.heap.size g2 RW.out (cp BX.out.e0 rfl) WG.out (by unfold cG;rw[List.length_map];exact hlen)).mono ?_;rintro e W1 ⟨rfl,r1,k1⟩;rw[<- hq.out]at r1 |-;replace BX:=h_ (BX.out.ct k1 (fun k hk e=>by rcases e with e | e <;> omega));replace KW:=h_ (KW.out.trans k1);replace WG:=h_ (show eU g2 q0.1.cu 0 fl (cG name) W1 from k1.heap WG.out (fun e=>by rcases e with e | e <;> omega));replace RW:=h_ r1;clear r1 k1 cc dd hq;clear W
      rename World=>W
      go_wp2_with fail;rw[rounds_succ];have cc:C_ W gp 3=some (.func (.func 147) #[Pt s] #[]):=cp BX.out.ep rfl;have he:q3.2=0:=E3.out;have dd:(q3.2 != 0)=false:=by simp[he]
      have hq:=h_ (T4.out he);clear he;go_wp2_with fail;refine(lC W s b bb _ RW.out).mono ?_;rintro e W1 ⟨rfl,r1,k1⟩;rw[<- hq.out]at r1 |-;replace BX:=h_ (BX.out.ct k1 (fun k hk e=>by rcases e with e | e <;> omega));replace KW:=h_ (KW.out.trans k1);replace WG:=h_ (show eU g2 q0.1.cu 0 fl (cG name) W1 from k1.heap WG.out (fun e=>by rcases e with e | e <;> omega));replace RW:=h_ r1;clear r1 k1 cc dd hq;clear W
      rename World=>W
      go_wp2_with fail;rw[rounds_succ];have cc:C_ W gp 4=some (.func (.func 152) #[] #[Pt w.heap.size,Pt g2,Pt (w.heap.size+1+1+1+1)]):=cp BX.out.ep rfl;have he:q4.2=0:=E4.out;have dd:(q4.2 != 0)=false:=by simp[he]
      have hq:=h_ (T5.out he);clear he;go_wp2_with fail;refine(yn W s b bb _ _ _ _ cd (cG name) w.heap.size g2 (w.heap.size+1+1+1+1) RW.out (cp BX.out.e0 rfl) WG.out (cp BX.out.e4 rfl) (by omega) (by omega) (by omega) (by omega) (by omega)).mono ?_;rintro e W1 ⟨rfl,r1,g1,k1⟩;rw[<- hq.out]at r1 |-;replace BX:=h_ (BX.out.ct k1 (fun k hk e=>by rcases e with e | e | e <;> omega));replace KW:=h_ (KW.out.dh k1 (fun i hi e=>by rcases e with e | e | e;exact .inl e;exact .inr e;omega));replace WG:=h_ (show eU g2 q0.1.cu q4.1.cu fl (cG name) W1 from g1);replace RW:=h_ r1;clear r1 k1 g1 cc dd hq W
      rename World=>W
      go_wp2_with fail;rw[rounds_succ];have cc:C_ W gp 5=some (.func (.func 153) #[] #[Pt w.heap.size,Pt (w.heap.size+1),Pt g2]):=cp BX.out.ep rfl;have he:q5.2=0:=E5.out;have dd:(q5.2 != 0)=false:=by simp[he]
      have hq:=h_ (T6.out he);clear he;go_wp2_with fail;refine(LD W s b bb _ _ _ _ l (cG name) w.heap.size (w.heap.size+1) g2 RW.out (cp BX.out.e0 rfl) WG.out (cp BX.out.e1 rfl)).mono ?_;rintro e W1 ⟨rfl,r1,k1⟩;rw[<- hq.out]at r1 |-;replace BX:=h_ (BX.out.ct k1 (fun k hk e=>by rcases e with e | e <;> omega));replace KW:=h_ (KW.out.trans k1);replace WG:=h_ (show eU g2 q0.1.cu q4.1.cu fl (cG name) W1 from k1.heap WG.out (fun e=>by rcases e with e | e <;> omega));replace RW:=h_ r1;clear r1 k1 cc dd hq;clear W
      rename World=>W
      go_wp2_with fail;rw[rounds_succ];have he:q6.2=0:=E6.out;have dd:(q6.2 != 0)=false:=by simp[he]
      have hr:=ZF.out he;subst hr;clear he;have a0:C_ W (w.heap.size+5) 0=some (I_ 0):=cp BX.out.e5 rfl;have a1:C_ W (w.heap.size+5) 1=some (I_ 0):=cp BX.out.e5 rfl;have a2:C_ W (w.heap.size+5) 2=some (I_ 0):=cp BX.out.e5 rfl;have a3:C_ W (w.heap.size+5) 3=some (.string ⟨#[]⟩):=cp BX.out.e5 rfl;have b0:=cB (i:=0) BX.out.e5;have b1:=cB (i:=1) BX.out.e5;have b2:=cB (i:=2) BX.out.e5;have b3:=cB (i:=3) BX.out.e5;have y0:C_ W g2 0=some (I_ q0.1.cu):=cp WG.out rfl;have y1:C_ W g2 1=some (I_ q4.1.cu):=cp WG.out rfl;have y2:C_ W g2 2=some (I_ fl):=cp WG.out rfl;have y3:C_ W g2 3=some (S_ (cG name)):=cp WG.out rfl;go_wp2_with fail;have hB:=lI BX.out.e5 (I_ q0.1.cu) (I_ q4.1.cu) (I_ fl) (S_ (cG name));have g0:=cp (i:=0) hB rfl;have g1:=cp (i:=1) hB rfl;have g2':=cp (i:=2) hB rfl;have g3:=cp (i:=3) hB rfl;have KS:=ei KW.out (w.heap.size+5) (I_ q0.1.cu) (I_ q4.1.cu) (I_ fl) (S_ (cG name)) (by omega);have RS:=RW.out.ct (fF _ (w.heap.size+5) (I_ q0.1.cu) (I_ q4.1.cu) (I_ fl) (S_ (cG name))) (fun e=>by have e:s=w.heap.size+5:=e;omega) (fun e=>by have e:b=w.heap.size+5:=e;omega) (fun e=>by have e:bb=w.heap.size+5:=e;omega);exact bodyPost_ret (v:=.tuple #[Wd.val ⟨q0.1.cu,q4.1.cu,fl,cG name⟩,I_ 0]) (by simp[results,results82,go_sem,Wd.val,g0,g1,g2',g3]) rfl ⟨rfl,RS,KS⟩
def H5(o:Option Nat):Value:=.pointer (o.map fun n=>⟨n,0,none⟩)
structure Mc where
 sp:Option Nat
 dk:Option Nat
 rk:Option Nat
 hp:Option Nat
 nm:Nat
 ip:Int
 dU:Int
 root:Int
 cF:Int
 cy:Int
 cI:Int
 out:List UInt8
 mT:List UInt8
 dL:Bool
 dD:Int
 cV:Int
 cC:Int
 mB:Nat
def Mc.cells(c:Mc):Array Value:=#[H5 c.sp,H5 c.dk,H5 c.rk,H5 c.hp,cD c.nm,I_ c.ip,I_ c.dU,I_ c.root,I_ c.cF,I_ c.cy,I_ c.cI,
 S_ c.out,S_ c.mT,.bool c.dL,I_ c.dD,I_ c.cV,I_ c.cC,.map (some c.mB)]
def iD(w:World)(g:Nat)(c:Mc):Prop:=w.heap[g]?=some (.cells c.cells 47 (0,0))
theorem iD.ct{w w':World}{g:Nat}{c:Mc}(h:iD w g c){S:Nat->Prop}(k:cq S w w')(n:¬ S g):iD w' g c:=k.heap h n
theorem iD.y9{w:World}{g:Nat}{c:Mc}(h:iD w g c)(v:Int):iD (w.setCell ⟨g,14,none⟩ (I_ v)) g { c with dD:=v }:=cz h _
theorem iD.y'{w:World}{g:Nat}{c:Mc}(h:iD w g c)(v:Int):iD (w.setCell ⟨g,8,none⟩ (I_ v)) g { c with cF:=v }:=cz h _
theorem iD.sC{w:World}{g:Nat}{c:Mc}(h:iD w g c)(v:Int):iD (w.setCell ⟨g,15,none⟩ (I_ v)) g { c with cV:=v }:=cz h _
theorem iD.tZ{w:World}{g:Nat}{c:Mc}(h:iD w g c)(v:Int):iD (w.setCell ⟨g,7,none⟩ (I_ v)) g { c with root:=v }:=cz h _
theorem iD.fB{w:World}{g:Nat}{c:Mc}(h:iD w g c)(v:Nat):iD (w.setCell ⟨g,0,none⟩ (cD v)) g { c with sp:=some v }:=cz h _
theorem iD.Tn{w:World}{g:Nat}{c:Mc}(h:iD w g c)(v:Nat):iD (w.setCell ⟨g,1,none⟩ (cD v)) g { c with dk:=some v }:=cz h _
theorem iD.Tp{w:World}{g:Nat}{c:Mc}(h:iD w g c)(v:Nat):iD (w.setCell ⟨g,2,none⟩ (cD v)) g { c with rk:=some v }:=cz h _
theorem iD.Tq{w:World}{g:Nat}{c:Mc}(h:iD w g c)(v:Nat):iD (w.setCell ⟨g,3,none⟩ (cD v)) g { c with hp:=some v }:=cz h _
theorem iD.er{w:World}{g:Nat}{c:Mc}(h:iD w g c)(i:Nat):w.frozen? ⟨g,i,none⟩=false:=cB h
theorem iD.c0{w:World}{g:Nat}{c:Mc}(h:iD w g c):w.cell? ⟨g,0,none⟩=some (H5 c.sp):=cp h rfl
theorem iD.c8{w:World}{g:Nat}{c:Mc}(h:iD w g c):w.cell? ⟨g,8,none⟩=some (I_ c.cF):=cp h rfl
theorem iD.UY{w:World}{g:Nat}{c:Mc}(h:iD w g c):w.cell? ⟨g,14,none⟩=some (I_ c.dD):=cp h rfl
theorem iD.WQ{w:World}{g:Nat}{c:Mc}(h:iD w g c):w.cell? ⟨g,15,none⟩=some (I_ c.cV):=cp h rfl
open Go Go.RowKit Go.Proofs.K Go.Proofs.tI
theorem LH(w:World)(j s b m:Nat)(c:Mc)(x y:Sp)(an ay ao:Int)(X:iD w j c)(aw:c.sp=some s)(aj:gR w s b m x)(o:Vm.qT x=some (y,an,ay,ao))(n1:j≠s)(n2:j≠b)(n3:j≠m) :
 Calls prog 131 #[cD j] w fun e w'=>e=.returned (I_ 0)/\iD w' j { c with dD:=an,cF:=ay,cV:=ao }/\gR w' s b m y/\cq (fun k=>k=j\/k=s\/k=m) w w':=by
 unfold Vm.qT at o;by_cases p1:(x.cN 10).2=0;case neg=>rw[if_pos p1]at o;cases o
 rw[if_neg (by simpa using p1)]at o;have C1:=h_ fun V R=>eP V s b m x 10 R;generalize aL:x.cN 10=x1 at o p1 C1;obtain⟨x1,e1⟩:=x1;simp only at o p1;subst p1;by_cases p2:x1.cF.2.2=0;case neg=>rw[if_pos p2]at o;cases o
 rw[if_neg (by simpa using p2)]at o;have C2:=h_ fun V R=>xD V s b m x1 R;generalize x1.cF=x2 at o p2 C2;obtain⟨x2,l,e2⟩:=x2;simp only at o p2;subst p2;generalize z:Vm.gG l names x2 0=r3 at o;cases r3 with
 | none=>simp only at o;cases o
 | some r3 =>
 obtain⟨x3,ac⟩:=r3;simp only at o;by_cases p4:(x3.cO l [98,97,115,101] 0 1003).2.2=0;case neg=>rw[if_pos p4]at o;cases o
 have C4:=h_ fun V R=>nQ V s b m x3 l [98,97,115,101] 0 1003 R (by omega) (by omega) p4;rw[if_neg (by simpa using p4)]at o;generalize x3.cO l [98,97,115,101] 0 1003=x4 at o p4 C4;obtain⟨x4,D,e4⟩:=x4;simp only at o p4;subst p4;have C5:=h_ fun V R=>eP V s b m x4 x.cu R;by_cases p5:(x4.cN x.cu).2=0;case neg=>rw[if_pos p5]at o;cases o
 rw[if_neg (by simpa using p5)]at o;generalize x4.cN x.cu=L at o p5 C5;obtain⟨L,e5⟩:=L;simp only at o p5;subst p5;have C6:=h_ fun V R=>eP V s b m L ac R;by_cases p6:(L.cN ac).2=0;case neg=>rw[if_pos p6]at o;cases o
 rw[if_neg (by simpa using p6)]at o;generalize L.cN ac=x6 at o p6 C6;obtain⟨x6,e6⟩:=x6;simp only at o p6;subst p6;injection o with o;injection o with h1 o;injection o with h2 o;injection o with h3 h4;subst h1;subst h2;subst h3;subst h4;have HF:=h_ z;have aA:=h_ fun w=>mO w;clear z aL;obtain⟨sp,dk,rk,aY,a1,ip,a5,a4,li,a6,aR,a2,a0,a3,ba,ca,aS,aQ⟩:=c;simp only at aw;subst aw;have c0:=X.c0;have aC:=X.er 14;have aB:=X.UY;have A:=h_ (X.y9 x.cu);have K1:cq (fun k=>k=j) w (w.setCell ⟨j,14,none⟩ (I_ x.cu)):=cq.setCell _ _ _ (fun _=>rfl);have HS:=h_ (eJ w s b m x aj);have E:=h_ (aj.ct K1 (fun e=>n1 e.symm) (fun e=>n2 e.symm) (fun e=>n3 e.symm));have F:=h_ (K1.mono (T:=fun k=>k=j\/k=s\/k=m) (fun _ _ e=>.inl e));have B:=h_ n1;have N2:=h_ n2;have C:=h_ n3;unfold H5 at c0;clear X aj K1 n1 n2 n3;go_enter func131,ntmps131;go_wp2_with fail;refine eD HS.out ?_;clear HS;go_wp2_with fail;clear c0 aC aB;refine(C1.out _ E.out).mono ?_;rintro e W ⟨rfl,K,v⟩;replace A:=h_ (A.out.ct v (fun e=>by rcases e with e | e;exact B.out e;exact C.out e));replace F:=h_ (F.out.trans (v.mono (fun _ _ e=>.inr e)));replace E:=h_ K;clear K v;have c0:C_ W j 0=some (cD s):=A.out.c0;go_wp2_with fail;refine(C2.out _ E.out).mono ?_;clear c0;rintro e W ⟨rfl,K,v⟩;replace A:=h_ (A.out.ct v (fun e=>by rcases e with e | e;exact B.out e;exact C.out e));replace F:=h_ (F.out.trans (v.mono (fun _ _ e=>.inr e)));replace E:=h_ K;clear K v;have c0:C_ W j 0=some (cD s):=A.out.c0;have aZ:=F.out.size;have f8:=A.out.er 8;have c8:=A.out.c8;have K8:cq (fun k=>k=j) W (W.setCell ⟨j,8,none⟩ (I_ l)):=cq.setCell _ _ _ (fun _=>rfl);replace A:=h_ (A.out.y' l);replace E:=h_ (E.out.ct K8 (fun e=>B.out e.symm) (fun e=>N2.out e.symm) (fun e=>C.out e.symm));replace F:=h_ (F.out.trans (K8.mono (T:=fun k=>k=j\/k=s\/k=m) (fun _ _ e=>.inl e)));clear K8;go_wp2_with fail;have aI:j<(W.setCell ⟨j,8,none⟩ (I_ l)).heap.size:=cA A.out;have KA:=h_ (dR (W.setCell ⟨j,8,none⟩ (I_ l)) (.cells #[I_ 0,I_ 0,I_ 0,.string ⟨#[]⟩] 53));have AA:=h_ (cx (W.setCell ⟨j,8,none⟩ (I_ l)) (.cells #[I_ 0,I_ 0,I_ 0,.string ⟨#[]⟩] 53));have ax:(W.setCell ⟨j,8,none⟩ (I_ l)).heap.size=W.heap.size:=by simp
 have av:((W.setCell ⟨j,8,none⟩ (I_ l)).alloc (.cells #[I_ 0,I_ 0,I_ 0,.string ⟨#[]⟩] 53)).heap.size=W.heap.size+1:=by simp
 generalize aE:(W.setCell ⟨j,8,none⟩ (I_ l))=W1 at *;generalize aF:W1.alloc (.cells #[I_ 0,I_ 0,I_ 0,.string ⟨#[]⟩] 53)=W2 at *;clear aE aF f8 c8 c0;have aq:W1.heap.size=W.heap.size:=ax;obtain⟨p,hg⟩:∃ p,p=W.heap.size:=⟨_,rfl⟩;rw[<- hg]at ax av aq |-;rw[aq]at aI AA;have aX:s<p/\m<p/\b<p:=by
  have:=E.out.head;have h1:=cA this;have h2:=E.out.mem.lt;omega
 replace A:=h_ (A.out.ct KA.out id);replace E:=h_ (E.out.ct KA.out id id id);replace F:=h_ (F.out.trans (KA.out.mono (fun _ _ e=>e.elim)));have aU:w.heap.size<=p:=by omega
 have HG:=h_ hg;clear hg KA;refine(aA.out _).mono ?_;rintro e W3 ⟨rfl,ap⟩;have ON:=h_ (px W2);have Q:=h_ (dR W2 (.cells (names.map nm).toArray 9));rw[ap]at ON Q;rw[av]at ON |-;clear ap;replace A:=h_ (A.out.ct Q.out id);replace E:=h_ (E.out.ct Q.out id id id);replace F:=h_ (F.out.trans (Q.out.mono (fun _ _ e=>e.elim)));replace AA:=h_ (show eU p 0 0 0 [] W3 from Q.out.heap AA.out id);clear Q;go_wp2_with fail
 go_loopw [45] (fun iv wr=>∃ (i:Nat) (y:Sp) (I a f:Int) (n:List UInt8),iv=I_ i/\i<=86/\Vm.gG l (names.drop i) y I=some (x3,ac)/\gR wr s b m y/\eU p a I f n wr/\cq (fun k=>k=p\/k=s\/k=m) W3 wr) (fun iv _=>86-(intOf iv).toNat)
 case atStart=>exact⟨0,x2,0,0,0,[],rfl,by omega,HF.out,E.out,AA.out,cq.refl _ _⟩
 case round =>
  obtain⟨i,y,I,a,f,n,rfl,hi,z,hr,hw,hk⟩:=hrel;have H:=h_ hr;have ah:=h_ hw;have HK:=h_ hk;have Y:=h_ (A.out.ct hk (fun e=>by rcases e with e | e | e;omega;exact B.out e;exact C.out e));clear hr hw hk;by_cases au:i<86
  . have af:i<names.length:=by rw[fZ];exact au
    obtain⟨g,hg,X⟩:=qS (ON.out.ct HK.out (fun g e=>by cases e;exact fun e=>by rcases e with e | e | e <;> (have e:p+1=_:=e;omega))) i af;cases hg;rw[List.drop_eq_getElem_cons af]at z;have ar:names[i].length<=31:=by
     have:∀ s ∈ names,s.length<=31:=by decide +kernel
     exact this _ (List.getElem_mem af)
    generalize names[i]=J at X z ar;rw[Vm.gG]at z;by_cases pc:(y.cO l J 0 (num J)).2.2=0;case neg=>rw[if_neg pc]at z;cases z
    rw[if_pos pc]at z;have ag:=h_ fun V=>uI J V;have ad:=h_ fun V R=>nQ V s b m y l J 0 (num J) R (by omega) (by omega) pc;generalize y.cO l J 0 (num J)=Z at z pc ad;obtain⟨Z,h,e2⟩:=Z;simp only at z pc;subst pc;have aa:=h_ z;have aW:(0:Int)<=(i:Int):=by omega
    unfold nm at X;clear z ar af;generalize num J=nu at ag ad;go_upto_region 13 with fail;have O:C_ wr j 0=some (cD s):=Y.out.c0;have m8:C_ wr j 8=some (I_ l):=Y.out.c8;have aJ:j<wr.heap.size:=cA Y.out;have aK:s<wr.heap.size/\m<wr.heap.size:=⟨cA H.out.head,H.out.mem.lt.2⟩
    go_cut [8,9] (fun v8 v9 wx=>∃ U:Nat,v8=cD U/\v9=I_ 0/\eU U h.cM h.xt h.cP h.name wx/\gR wx s b m Z/\wr.heap.size<=U/\cq (fun k=>k=s\/k=m) wr wx)
    case first =>
     go_region_held3 (fun w'=>C_ w' j 0=some (cD s)/\C_ w' j 8=some (I_ l))
      (first | go_keep)
      (first
        | (go_at_call 121;refine(ag.out (wr.alloc (.cells #[I_ 0,I_ 0,I_ 0,.string ⟨#[]⟩] 53)).drew).mono ?_;rintro e u ⟨rfl,k4⟩;dsimp only
           have G:=((dR wr (.cells #[I_ 0,I_ 0,I_ 0,.string ⟨#[]⟩] 53)).trans (fw _)).trans k4;have q:=k4.heap (show((wr.alloc (.cells #[I_ 0,I_ 0,I_ 0,.string ⟨#[]⟩] 53)).drew).heap[wr.heap.size]?=_ from cx wr _) id;have p0:=G.cell O id;have p8:=G.cell m8 id;have r4:=H.out.ct G id id id;have l4:=G.size
           have zz:wr.heap.size<u.heap.size:=cA q)
        | (go_at_call 121;refine(ag.out wr.drew).mono ?_;rintro e u ⟨rfl,k4⟩;dsimp only
           have G:=(fw wr).trans k4;have p0:=G.cell O id;have p8:=G.cell m8 id;have r4:=H.out.ct G id id id
           have l4:=G.size)
        | (go_at_call 82;refine(ad.out (u.alloc (.cells #[I_ 0,I_ 0,I_ 0,.string ⟨#[]⟩] 53)) (r4.dC _)).mono ?_;rintro e t ⟨rfl,P,r⟩;dsimp only[Wd.val]
           have q:=r.heap (cx u (.cells #[I_ 0,I_ 0,I_ 0,.string ⟨#[]⟩] 53)) (fun e=>by rcases e with e | e <;> omega);have o0:=r.cell ((dR u (.cells #[I_ 0,I_ 0,I_ 0,.string ⟨#[]⟩] 53)).cell p0 id) (fun e=>by rcases e with e | e;exact B.out e;exact C.out e);have o8:=r.cell ((dR u (.cells #[I_ 0,I_ 0,I_ 0,.string ⟨#[]⟩] 53)).cell p8 id) (fun e=>by rcases e with e | e;exact B.out e;exact C.out e);have N:=(G.mono (T:=fun k=>k=s\/k=m) (fun _ _ e=>e.elim)).trans (((cq.alloc (fun k=>k=s\/k=m) u (.cells #[I_ 0,I_ 0,I_ 0,.string ⟨#[]⟩] 53))).trans r);have n0:j≠u.heap.size:=by omega
           have az:u.heap.size≠j:=by omega
           have z0:C_ t u.heap.size 0=some (I_ 0):=cp q rfl;have z1:C_ t u.heap.size 1=some (I_ 0):=cp q rfl;have z2:C_ t u.heap.size 2=some (I_ 0):=cp q rfl;have z3:C_ t u.heap.size 3=some (.string ⟨#[]⟩):=cp q rfl;have q0:=cB (i:=0) q;have q1:=cB (i:=1) q;have q2:=cB (i:=2) q
           have q3:=cB (i:=3) q)
        | (go_at_call 82;refine(ad.out u r4).mono ?_;rintro e t ⟨rfl,P,r⟩;dsimp only[Wd.val]
           have q:=r.heap q (fun e=>by rcases e with e | e <;> omega);have o0:=r.cell p0 (fun e=>by rcases e with e | e;exact B.out e;exact C.out e);have o8:=r.cell p8 (fun e=>by rcases e with e | e;exact B.out e;exact C.out e);have N:=(G.mono (T:=fun k=>k=s\/k=m) (fun _ _ e=>e.elim)).trans r;have n0:j≠wr.heap.size:=by omega
           have az:wr.heap.size≠j:=by omega
           have z0:C_ t wr.heap.size 0=some (I_ 0):=cp q rfl;have z1:C_ t wr.heap.size 1=some (I_ 0):=cp q rfl;have z2:C_ t wr.heap.size 2=some (I_ 0):=cp q rfl;have z3:C_ t wr.heap.size 3=some (.string ⟨#[]⟩):=cp q rfl;have q0:=cB (i:=0) q;have q1:=cB (i:=1) q;have q2:=cB (i:=2) q
           have q3:=cB (i:=3) q)
        | (go_at_call 82;refine(ad.out u r4).mono ?_;rintro e t ⟨rfl,P,r⟩;dsimp only[Wd.val]
           have o0:=r.cell p0 (fun e=>by rcases e with e | e;exact B.out e;exact C.out e);have o8:=r.cell p8 (fun e=>by rcases e with e | e;exact B.out e;exact C.out e)
           have N:=(G.mono (T:=fun k=>k=s\/k=m) (fun _ _ e=>e.elim)).trans r))
     all_goals
      go_wp2;go_meet;refine⟨_,rfl,rfl,?_⟩
      first
       | (have hB:=lI (g:=u.heap.size) q (I_ h.cM) (I_ h.xt) (I_ h.cP) (S_ h.name)
          have kB:=ei N (u.heap.size) (I_ h.cM) (I_ h.xt) (I_ h.cP) (S_ h.name) (by omega);have aG:=H.out.mem.lt;have rB:=P.ct (fF t (u.heap.size) (I_ h.cM) (I_ h.xt) (I_ h.cP) (S_ h.name)) (fun e=>by have e:s=u.heap.size:=e;omega) (fun e=>by have e:b=u.heap.size:=e;omega) (fun e=>by have e:m=u.heap.size:=e;omega)
          exact⟨hB,rB,by omega,kB⟩)
       | (have hB:=lI (g:=wr.heap.size) q (I_ h.cM) (I_ h.xt) (I_ h.cP) (S_ h.name)
          have kB:=ei N (wr.heap.size) (I_ h.cM) (I_ h.xt) (I_ h.cP) (S_ h.name) (by omega);have aG:=H.out.mem.lt;have rB:=P.ct (fF t (wr.heap.size) (I_ h.cM) (I_ h.xt) (I_ h.cP) (S_ h.name)) (fun e=>by have e:s=wr.heap.size:=e;omega) (fun e=>by have e:b=wr.heap.size:=e;omega) (fun e=>by have e:m=wr.heap.size:=e;omega)
          exact⟨hB,rB,by omega,kB⟩)
       | (have hA:=cx t (.cells #[I_ h.cM,I_ h.xt,I_ h.cP,S_ h.name] 53)
          have kA:=N.trans (cq.alloc (fun k=>k=s\/k=m) t (.cells #[I_ h.cM,I_ h.xt,I_ h.cP,S_ h.name] 53));have lA:=N.size
          exact⟨hA,P.dC _,by omega,kA⟩)
    case rest =>
     obtain⟨U,rfl,rfl,ae,r8,h8,k8⟩:=hcut;have e0:C_ wc U 0=some (I_ h.cM):=cp ae rfl;have e1:C_ wc U 1=some (I_ h.xt):=cp ae rfl;have e2:C_ wc U 2=some (I_ h.cP):=cp ae rfl;have e3:C_ wc U 3=some (S_ h.name):=cp ae rfl;have M:=h_ (show eU p a I f n wc from k8.heap ah.out (fun e=>by rcases e with e | e <;> omega));have R8:=h_ r8;have K8:=h_ (HK.out.trans (k8.mono (T:=fun k=>k=p\/k=s\/k=m) (fun _ _ e=>.inr e)));clear ae r8 k8;by_cases ab:J=[40,99,97,117,103,104,116,41]
     . have d:(J == [40,99,97,117,103,104,116,41])=true:=by simp[ab]
       replace aa:=h_ (show Vm.gG l (names.drop (i+1)) Z h.xt=some (x3,ac) by have:=aa.out;rw[if_pos ab]at this;exact this);have q0:C_ wc p 0=some (I_ a):=cp M.out rfl;have q1:C_ wc p 1=some (I_ I):=cp M.out rfl;have q2:C_ wc p 2=some (I_ f):=cp M.out rfl;have q3:C_ wc p 3=some (S_ n):=cp M.out rfl;have b0:=cB (i:=0) M.out;have b1:=cB (i:=1) M.out;have b2:=cB (i:=2) M.out;have b3:=cB (i:=3) M.out;have WN:=h_ (lI M.out (I_ h.cM) (I_ h.xt) (I_ h.cP) (S_ h.name));have Q:=h_ (K8.out.trans ((fF wc p (I_ h.cM) (I_ h.xt) (I_ h.cP) (S_ h.name)).mono (T:=fun k=>k=p\/k=s\/k=m) (fun _ _ e=>.inl e)));have RN:=h_ (R8.out.ct (fF wc p (I_ h.cM) (I_ h.xt) (I_ h.cP) (S_ h.name)) (fun e=>by have e:s=p:=e;omega) (fun e=>by have e:b=p:=e;omega) (fun e=>by have e:m=p:=e;omega));clear ab;go_wp2;go_roundw;case rel=>exact⟨i+1,Z,h.xt,h.cM,h.cP,h.name,by go_num,by omega,aa.out,RN.out,WN.out,Q.out⟩
       case measure=>simp[intOf];omega
     . have d:(J == [40,99,97,117,103,104,116,41])=false:=by simp[ab]
       replace aa:=h_ (show Vm.gG l (names.drop (i+1)) Z I=some (x3,ac) by have:=aa.out;rw[if_neg ab]at this;exact this);clear ab;go_wp2;go_roundw;case rel=>exact⟨i+1,Z,I,a,f,n,by go_num,by omega,aa.out,R8.out,M.out,K8.out⟩
       case measure=>simp[intOf];omega
  . have aH:i=86:=by omega
    subst aH;rw[show names.drop 86=[] by rw[<- fZ];exact List.drop_length]at z;rw[Vm.gG]at z;injection z with z;injection z with h1 h2;subst h1;subst h2;clear au;have O:C_ wr j 0=some (cD s):=Y.out.c0;have m8:C_ wr j 8=some (I_ l):=Y.out.c8;have aJ:j<wr.heap.size:=cA Y.out;have aK:s<wr.heap.size/\m<wr.heap.size:=⟨cA H.out.head,H.out.mem.lt.2⟩;have aT:b<wr.heap.size:=H.out.mem.lt.1;have aV:p<wr.heap.size:=cA ah.out;go_wp2_with fail
    go_cut [10,11] (fun v8 v9 wx=>v9=I_ 0/\gR wx s b m x4/\cq (fun k=>k=s\/k=m) wr wx)
    case first =>
     go_region_held3 (fun w'=>C_ w' j 0=some (cD s)/\C_ w' j 8=some (I_ l))
      (first | go_keep)
      (first
        | (go_at_call 82;refine(C4.out (wr.alloc (.cells #[I_ 0,I_ 0,I_ 0,.string ⟨#[]⟩] 53)).drew ((H.out.dC _).drew)).mono ?_;rintro e t ⟨rfl,P,r⟩;dsimp only[Wd.val]
           have q:=r.heap (show((wr.alloc (.cells #[I_ 0,I_ 0,I_ 0,.string ⟨#[]⟩] 53)).drew).heap[wr.heap.size]?=_ from cx wr _) (fun e=>by rcases e with e | e <;> omega);have o0:=r.cell ((dR wr (.cells #[I_ 0,I_ 0,I_ 0,.string ⟨#[]⟩] 53)).cell O id) (fun e=>by rcases e with e | e;exact B.out e;exact C.out e);have o8:=r.cell ((dR wr (.cells #[I_ 0,I_ 0,I_ 0,.string ⟨#[]⟩] 53)).cell m8 id) (fun e=>by rcases e with e | e;exact B.out e;exact C.out e);have N:=((cq.alloc (fun k=>k=s\/k=m) wr (.cells #[I_ 0,I_ 0,I_ 0,.string ⟨#[]⟩] 53)).trans (cq.drew _ _)).trans r;have n0:j≠wr.heap.size:=by omega
           have az:wr.heap.size≠j:=by omega
           have z0:C_ t wr.heap.size 0=some (I_ 0):=cp q rfl;have z1:C_ t wr.heap.size 1=some (I_ 0):=cp q rfl;have z2:C_ t wr.heap.size 2=some (I_ 0):=cp q rfl;have z3:C_ t wr.heap.size 3=some (.string ⟨#[]⟩):=cp q rfl;have q0:=cB (i:=0) q;have q1:=cB (i:=1) q;have q2:=cB (i:=2) q
           have q3:=cB (i:=3) q)
        | (go_at_call 82;refine(C4.out wr.drew H.out.drew).mono ?_;rintro e t ⟨rfl,P,r⟩;dsimp only[Wd.val]
           have o0:=r.cell O (fun e=>by rcases e with e | e;exact B.out e;exact C.out e);have o8:=r.cell m8 (fun e=>by rcases e with e | e;exact B.out e;exact C.out e)
           have N:=(cq.drew (fun k=>k=s\/k=m) wr).trans r))
     all_goals
      go_wp2;go_meet;refine⟨rfl,?_⟩
      first
       | (have hB:=lI (g:=wr.heap.size) q (I_ D.cM) (I_ D.xt) (I_ D.cP) (S_ D.name)
          have kB:=ei N wr.heap.size (I_ D.cM) (I_ D.xt) (I_ D.cP) (S_ D.name) (by omega);have rB:=P.ct (fF t wr.heap.size (I_ D.cM) (I_ D.xt) (I_ D.cP) (S_ D.name)) (fun e=>by have e:s=wr.heap.size:=e;omega) (fun e=>by have e:b=wr.heap.size:=e;omega) (fun e=>by have e:m=wr.heap.size:=e;omega)
          exact⟨rB,kB⟩)
       | (have kA:=N.trans (cq.alloc (fun k=>k=s\/k=m) t (.cells #[I_ D.cM,I_ D.xt,I_ D.cP,S_ D.name] 53))
          exact⟨P.dC _,kA⟩)
    case rest =>
     obtain⟨rfl,r9,k9⟩:=hcut;have nS:¬ (j=s\/j=m):=fun e=>by rcases e with e | e;exact B.out e;exact C.out e
     have S:=h_ (Y.out.ct k9 nS);have W9:=h_ (show eU p a I f n wc from k9.heap ah.out (fun e=>by rcases e with e | e <;> omega));have R9:=h_ r9;have K9:=h_ (HK.out.trans (k9.mono (T:=fun k=>k=p\/k=s\/k=m) (fun _ _ e=>.inr e)));have NS:=h_ nS;have O:C_ wc j 0=some (cD s):=S.out.c0;have aM:C_ wc j 14=some (I_ x.cu):=S.out.UY;clear r9 k9 m8 nS;go_upto_region 22 with fail;go_still_tail 8,(by kernel_rfl);change wpList _ _ _ _ _ wc.drew;go_wp2_with fail;refine(C5.out _ R9.out.drew).mono ?_;rintro e W ⟨rfl,K,v⟩;have v:=(cq.drew (fun k=>k=s\/k=m) wc).trans v;replace S:=h_ (S.out.ct v NS.out);replace W9:=h_ (show eU p a I f n W from v.heap W9.out (fun e=>by rcases e with e | e <;> omega));replace K9:=h_ (K9.out.trans (v.mono (T:=fun k=>k=p\/k=s\/k=m) (fun _ _ e=>.inr e)));replace R9:=h_ K;clear K v O aM;have O:C_ W j 0=some (cD s):=S.out.c0;have aN:=S.out.WQ;have aD:=S.out.er 15;have KX:cq (fun k=>k=j) W (W.setCell ⟨j,15,none⟩ (I_ L.cu)):=cq.setCell _ _ _ (fun _=>rfl);have ai:=h_ (S.out.sC L.cu);have am:=h_ (show eU p a I f n (W.setCell ⟨j,15,none⟩ (I_ L.cu)) from KX.heap W9.out (fun e=>by have e:p=j:=e;omega));have al:=h_ (R9.out.ct KX (fun e=>B.out e.symm) (fun e=>N2.out e.symm) (fun e=>C.out e.symm));have ak:=h_ ((K9.out.mono (T:=fun k=>k=j\/k=p\/k=s\/k=m) (fun _ _ e=>.inr e)).trans (KX.mono (fun _ _ e=>.inl e)));have aO:(W.setCell ⟨j,15,none⟩ (I_ L.cu)).cell? ⟨j,0,none⟩=some (cD s):=ai.out.c0;have aP:(W.setCell ⟨j,15,none⟩ (I_ L.cu)).cell? ⟨p,1,none⟩=some (I_ I):=cp am.out rfl;clear KX;go_wp2_with fail;refine eD (eJ W s b m _ R9.out) ?_;go_upto_region 26 with fail;generalize hV:W.setCell ⟨j,15,none⟩ (I_ L.cu)=V at ai am al ak aO aP |-;clear hV O aN aD;go_still_tail 6,(by kernel_rfl);change wpList _ _ _ _ _ V.drew;go_wp2_with fail;refine(C6.out _ al.out.drew).mono ?_;rintro e W' ⟨rfl,K,v⟩;have v:=(cq.drew (fun k=>k=s\/k=m) V).trans v;have MF:=h_ (ai.out.ct v NS.out);have RF:=h_ K;have KF:=h_ (F.out.dh (ak.out.trans (v.mono (T:=fun k=>k=j\/k=p\/k=s\/k=m) (fun _ _ e=>.inr (.inr e)))) (fun i hi e=>by rcases e with e | e | e | e;exact .inl e;omega;exact .inr (.inl e);exact .inr (.inr e)));clear K v;go_wp2;go_ret;exact⟨rfl,MF.out,RF.out,KF.out⟩
theorem H7(w:World)(s:List UInt8)(K:s.length<=1000000):Calls prog 368 #[S_ s] w fun e w'=>e=.returned (S_ (cG s))/\K_ w w':=by
 go_enter func368,ntmps368;go_wp2_with fail
 go_loopw [3,4] (fun B A wr=>∃ i:Nat,i<=s.length/\A=I_ i/\B=S_ (cG (s.take i))/\K_ w wr) (fun _ i _=>s.length-(intOf i).toNat)
 case atStart=>exact⟨0,Nat.zero_le _,rfl,rfl,cq.refl _ _⟩
 case round =>
  obtain⟨i,G,rfl,rfl,q⟩:=hrel;by_cases z:i<s.length
  . have D:(i:Int)<s.length:=by omega
    have E:(0:Int)<=i:=by omega
    have F:wrap64 ((i:Int)+1)=(i:Int)+1:=IntWalk.wrap64_in _ (by omega);have b:cG (s.take (i+1))=cG (s.take i)++[mw s[i]]:=by
     unfold cG;rw[show s.take (i+1)=s.take i++[s[i]] from by simp,List.map_append];rfl
    have y:(cG (s.take i)).length=i:=by unfold cG;simp;omega
    obtain⟨c,n⟩:∃ c,c=s[i]:=⟨_,rfl⟩;have r:=h_ n;rw[<- n]at b;generalize cG (s.take i)=o at b y |-;have I:¬ 9223372036854775807<o.length+1:=by omega
    have d:∀ (v:UInt8),(convert 143 9 (.slice (some ⟨wr.heap.size,0,none⟩) 1 1)).run prog (wr.alloc (.cells #[.int .u8 (v.toNat:Int)] 5))=.ok (.string ⟨#[v]⟩) (wr.alloc (.cells #[.int .u8 (v.toNat:Int)] 5)):=by
     intro v
     have:=run_convert_bytes_arg (P:=prog) (wr.alloc (.cells #[.int .u8 (v.toNat:Int)] 5)) 143 5 underlying143 underlying5 wr.heap.size 0 1 1 [(v.toNat:Int)] rfl (fun j H=>by
      have:j=0:=by omega
      subst this
      exact cp (cx wr _) rfl) 9 underlying9
     rw[this];have u:strOfNums [(v.toNat:Int)]=⟨#[v]⟩:=by
      unfold strOfNums;simp
     rw[u]
    have k:=fun (v:UInt8)=>q.trans (dR wr (.cells #[.int .u8 (v.toNat:Int)] 5));go_upto_region 5 with fail
    go_cut [5] (fun v C=>v=.int .u8 (c.toNat:Int)/\C=wr)
    case first =>
     go_wp2;go_meet;exact⟨by rw[r.out];rfl,rfl⟩
    case rest =>
     obtain⟨rfl,rfl⟩:=hcut;clear n;by_cases g:65<=c.toNat
     . by_cases h:c.toNat<=90
       . have a:((mw c).toNat:Int)=(c.toNat:Int)+32:=AO ⟨g,h⟩
         have m:=d (mw c);rw[a]at m;have l:=k (mw c);rw[a]at l;have f:=l;have L:IntKind.u8.wrap ((c.toNat:Int)+32)=(c.toNat:Int)+32:=by show((c.toNat:Int)+32) % 256=_;omega
         have p:(65:Int)<=(c.toNat:Int):=by omega
         have t:(c.toNat:Int)<=90:=by omega
         clear d l a g h;go_wp2;go_roundw;case rel=>exact⟨i+1,by omega,by go_num,by rw[b];rfl,f⟩
         case measure=>simp[intOf];omega
       . have a:mw c=c:=sA (fun e=>h e.2)
         rw[a]at b;have m:=d c;have f:=k c;have p:(65:Int)<=(c.toNat:Int):=by omega
         have t:(90:Int)<(c.toNat:Int):=by omega
         clear d a g h;go_wp2;go_roundw;case rel=>exact⟨i+1,by omega,by go_num,by rw[b];rfl,f⟩
         case measure=>simp[intOf];omega
     . have a:mw c=c:=sA (fun e=>g e.1)
       rw[a]at b;have m:=d c;have f:=k c;have p:(c.toNat:Int)<65:=by omega
       clear d a g;go_wp2;go_roundw;case rel=>exact⟨i+1,by omega,by go_num,by rw[b];rfl,f⟩
       case measure=>simp[intOf];omega
  . have x:i=s.length:=by omega
    subst x;have J:¬ ((s.length:Int)<s.length):=by omega
    rw[List.take_length];clear z;go_wp2;go_ret;exact⟨rfl,q⟩
theorem Sp.mV{r:Sp × Int}{f:Sp->Sp × Int}(h:(Sp.andThen r f).2=0):r.2=0/\(f r.1).2=0/\Sp.andThen r f=f r.1:=by
 unfold Sp.andThen at h |-;split at h
 . rename_i e;exact absurd h e
 . rename_i e;rw[if_neg e];exact⟨by simpa using e,h,rfl⟩
theorem Sp.AR{x:Sp}{l:Int}{a:List UInt8}{b c:Int}(h:(x.cO l a b c).2.2=0):∃ g r s t j u v:Sp,a≠[]/\a.length<=31/\(x.mem.cell l).2=0/\x.align=(g,0)/\g.cN (x.mem.cell l).1=(r,0) /\
 r.cN (a.length+b*256)=(s,0)/\s.jl (cG a)=(t,0)/\t.align=(j,0)/\j.cN c=(u,0)/\u.mG l g.cu=(v,0)/\x.cO l a b c=(v,⟨g.cu,j.cu,b,cG a⟩,0):=by
 unfold Sp.cO at h |-;split at h
 . cases h
 . rename_i i
   rw[if_neg i];split at h
   . rename_i d;exact absurd h d
   . rename_i d
     rw[if_neg d];have d:(x.EI l a b c).2=0:=by simpa using d
     obtain⟨p,P,D⟩:=Sp.mV d;obtain⟨o,O,C⟩:=Sp.mV p;obtain⟨n,N,B⟩:=Sp.mV o;obtain⟨m,a3,A⟩:=Sp.mV n;obtain⟨k,M,z⟩:=Sp.mV m;obtain⟨f,L,y⟩:=Sp.mV k;have q:(x.mem.cell l).2=0:=by
      unfold Sp.wY at f;split at f
      . rename_i e;exact e
      . exact f
     have w:x.wY l=x.align:=by unfold Sp.wY;rw[if_pos q]
     have E:x.wY l=((x.wY l).1,0):=Prod.ext rfl f;have F:x.Jp l=((x.Jp l).1,0):=Prod.ext rfl k;have G:x.Jq l a b=((x.Jq l a b).1,0):=Prod.ext rfl m;have H:x.Jr l a b=((x.Jr l a b).1,0):=Prod.ext rfl n;have I:x.Jg l a b=((x.Jg l a b).1,0):=Prod.ext rfl o;have J:x.Js l a b c=((x.Js l a b c).1,0):=Prod.ext rfl p;have K:x.EI l a b c=((x.EI l a b c).1,0):=Prod.ext rfl d
     refine⟨(x.wY l).1,(x.Jp l).1,(x.Jq l a b).1,(x.Jr l a b).1,(x.Jg l a b).1,(x.Js l a b c).1,(x.EI l a b c).1,fun e=>i (.inl e),by
      have:=fun e=>i (.inr e)
      omega,q,by rw[<- w];exact E,y ▸ F,z ▸ G,A ▸ H,B ▸ I,C ▸ J,D ▸ K,rfl⟩
theorem GM.of{s b a:Nat}{x y:Sp}{w:World}{e:Ending}{w':World}(h:GM s b a x w e w')(c:x=y):GM s b a y w e w':=c ▸ h
theorem LI(w:World)(s b a:Nat)(x:Sp)(c:x.cF.2.2=0)(h:lY w s b a x):Calls prog 214 #[cD s] w fun e w'=>e=.returned (.tuple #[I_ x.cF.2.1,I_ 0])/\lY w' s b a x.cF.1/\cq (fun k=>k=s\/k=a) w w':=by
 have q:x.align.2=0/\(x.align.1.cN 0).2=0/\x.cF=((x.align.1.cN 0).1,x.align.1.cu,0):=by
  unfold Sp.cF at c |-;split at c
  . rename_i e;exact absurd c e
  . rename_i e
    split at c
    . rename_i d;exact absurd c d
    . rename_i d;rw[if_neg e,if_neg d];exact⟨by simpa using e,by simpa using d,rfl⟩
 obtain⟨i,j,l⟩:=q;rw[l];have g:=uL w s b a x i h;have f:=fun V (p:lY V s b a x.align.1)=>kb V s b a x.align.1 0 j p;generalize x.align.1=y at g f |-;generalize (y.cN 0).1=z at f |-;clear h c i j l;go_enter func214,ntmps214;go_wp2_with fail;refine g.mono ?_;rintro e v ⟨rfl,n,r⟩;have u:=n.c3;go_wp2_with fail;refine(f _ n).mono ?_;rintro e A ⟨rfl,t,m⟩;have o:=r.trans m;clear m;go_wp2;go_ret2;exact⟨rfl,t,o⟩
theorem lY.sV{w:World}{s b a:Nat}{x:Sp}(h:lY w s b a x):s<w.heap.size/\b<w.heap.size/\a<w.heap.size:=⟨cA h.head,h.mem.lt⟩
theorem vk(w:World)(s b f:Nat)(x:Sp)(l:Int)(p:List UInt8)(d B:Int)(az:0<=d)(aA:d<=255)(am:(x.cO l p d B).2.2=0)(h:lY w s b f x) :
 Calls prog 215 #[cD s,I_ l,S_ p,I_ d,I_ B] w
 fun e w'=>e=.returned (.tuple #[(x.cO l p d B).2.1.val,I_ 0])/\lY w' s b f (x.cO l p d B).1/\cq (fun k=>k=s\/k=f) w w':=by
 obtain⟨g,y1,y2,F,q,z,y6,n0,m,h0,e0,e1,e2,e3,e4,e5,e6,ec⟩:=Sp.AR am;rw[ec];have Y:=fun V (o:lY V s b f x)=>qU V b f x.mem l o.mem;rw[h0]at Y;have ag:=h_ fun V=>H7 V p (by omega);have A0:=fun V (o:lY V s b f x)=>(uL V s b f x (by rw[e0]) o).mono fun _ _ h=>h.of (show _=g by rw[e0]);have A1:=fun V (o:lY V s b f g)=>(kb V s b f g (x.mem.cell l).1 (by rw[e1]) o).mono fun _ _ h=>h.of (show _=y1 by rw[e1]);have A2:=fun V (o:lY V s b f y1)=>(kb V s b f y1 (p.length+d*256) (by rw[e2]) o).mono fun _ _ h=>h.of (show _=y2 by rw[e2]);have aw:(cG p).length=p.length:=by unfold cG;simp
 have A3:=fun V (o:lY V s b f y2)=>(Ah V s b f y2 (cG p) (by omega) (by rw[e3]) o).mono fun _ _ h=>h.of (show _=F by rw[e3]);have A4:=fun V (o:lY V s b f F)=>(uL V s b f F (by rw[e4]) o).mono fun _ _ h=>h.of (show _=q by rw[e4]);have A5:=fun V (o:lY V s b f q)=>(kb V s b f q B (by rw[e5]) o).mono fun _ _ h=>h.of (show _=z by rw[e5]);have h6:(z.mem.setCell l g.cu).2=0:=congrArg Prod.snd e6;have ak:{ z with mem:=(z.mem.setCell l g.cu).1 }=y6:=congrArg Prod.fst e6;have T:=fun V (o:lY V s b f z)=>qj V b f z.mem l g.cu o.mem;rw[h6]at T;have Z6:=Mem.cQ z.mem l g.cu;have af:=h_ ak;generalize (z.mem.setCell l g.cu).1=m6 at T Z6 af;generalize (x.mem.cell l).1=aB at Y A1;generalize cG p=n at ag A3 |-;have H:=h.ct (dR w (.cells #[I_ 0,I_ 0,I_ 0,.string ⟨#[]⟩] 307)) id id id;have K0:=cq.alloc (fun k=>k=s\/k=f) w (.cells #[I_ 0,I_ 0,I_ 0,.string ⟨#[]⟩] 307);have B0:=cx w (.cells #[I_ 0,I_ 0,I_ 0,.string ⟨#[]⟩] 307);have LT:=h.sV;have f1:p.isEmpty=false:=by cases p with | nil=>exact absurd rfl n0 | cons=>rfl
 have f2:¬ (31:Int)<(p.length:Int):=by omega
 have f3:wrap64 (256*d)=d*256:=by rw[Int.mul_comm];exact IntWalk.wrap64_in _ (by omega)
 have f4:wrap64 ((p.length:Int)+d*256)=p.length+d*256:=IntWalk.wrap64_in _ (by omega);clear h0 e0 e1 e2 e3 e4 e5 e6 ec h6 ak am h n0 m aw;have c0:=H.c0;go_enter func215,ntmps215;go_wp2_with fail;refine eD (Y _ H) ?_;have A:=H.c3;go_wp2_with fail;refine(ag.out _).mono ?_;rintro e R ⟨rfl,J⟩;have R1:=H.ct J id id id;have K1:=K0.trans (J.mono (fun _ _ e=>e.elim));have B1:=J.heap B0 id;clear J c0 A;go_upto_region 8 with fail;obtain⟨a,al⟩:∃ a,a=R.heap.size:=⟨_,rfl⟩;have Q:=dR R (.cells #[I_ 0,I_ 0,I_ d,S_ n] 307);have U:=cx R (.cells #[I_ 0,I_ 0,I_ d,S_ n] 307);rw[<- al]at U |-;have ax:=R1.sV;have av:=cA B1;have j:=(show a≠s/\a≠f/\w.heap.size≠s/\w.heap.size≠f from by have:=LT;omega);have NB:=(show a≠b from by omega);have ai:=h_ (show a≠w.heap.size from by omega);have aj:=h_ (show w.heap.size<a from by omega);have R2:=R1.ct Q id id id;have B2:=Q.heap B1 id;have K2:=K1.trans (Q.mono (fun _ _ e=>e.elim));generalize R.alloc (.cells #[I_ 0,I_ 0,I_ d,S_ n] 307)=w2 at U R2 B2 K2 |-;clear Q al ax av;go_wp2_with fail;refine(A0 _ R2).mono ?_;rintro e D ⟨rfl,r3,L⟩;have W:=show D.heap[a]?=some (.cells #[I_ 0,I_ 0,I_ d,S_ n] 307 (0,0)) from L.heap U (fun e=>j.elim (fun m c=>e.elim m c.1));have B3:=L.heap B2 (fun e=>j.elim (fun m c=>e.elim c.2.1 c.2.2));have K3:=K2.trans L;clear L;have A:=r3.c3;have aa:=cB (i:=0) W;have ab:C_ D a 0=some (I_ 0):=cp W rfl;have u:=cq.setCell (S:=fun k=>k=a) D ⟨a,0,none⟩ (I_ g.cu) (fun _=>rfl);have R4:=(r3.ct u (fun e=>j.1 (by have e:s=a:=e;exact e.symm)) (fun e=>NB (by have e:b=a:=e;exact e.symm)) (fun e=>j.2.1 (by have e:f=a:=e;exact e.symm)));have G4:=show(D.setCell ⟨a,0,none⟩ (I_ g.cu)).heap[a]?=some (.cells #[I_ g.cu,I_ 0,I_ d,S_ n] 307 (0,0)) from cz (i:=0) W (I_ g.cu);have B4:=(u.heap B3 (fun e=>ai.out (by have e:w.heap.size=a:=e;exact e.symm)));have K4:=(K3.dh u (fun i hi e=>by have e:i=a:=e;have:=aj.out;omega));clear u;go_wp2_with fail;clear A aa ab;generalize D.setCell ⟨a,0,none⟩ (I_ g.cu)=w4 at R4 G4 B4 K4 |-;refine(A1 _ R4).mono ?_;rintro e w5 ⟨rfl,r5,M⟩;have G5:=show w5.heap[a]?=some (.cells #[I_ g.cu,I_ 0,I_ d,S_ n] 307 (0,0)) from M.heap G4 (fun e=>j.elim (fun m c=>e.elim m c.1));have B5:=M.heap B4 (fun e=>j.elim (fun m c=>e.elim c.2.1 c.2.2));have K5:=K4.trans M;clear M;go_wp2_with fail;rw[Int.mul_comm 256 d];refine(A2 _ r5).mono ?_;rintro e w6 ⟨rfl,r6,N⟩;have G6:=show w6.heap[a]?=some (.cells #[I_ g.cu,I_ 0,I_ d,S_ n] 307 (0,0)) from N.heap G5 (fun e=>j.elim (fun m c=>e.elim m c.1));have B6:=N.heap B5 (fun e=>j.elim (fun m c=>e.elim c.2.1 c.2.2));have K6:=K5.trans N;clear N;have F:C_ w6 a 3=some (S_ n):=cp G6 rfl;go_wp2_with fail;clear F;refine(A3 _ r6).mono ?_;rintro e w7 ⟨rfl,r7,O⟩;have G7:=show w7.heap[a]?=some (.cells #[I_ g.cu,I_ 0,I_ d,S_ n] 307 (0,0)) from O.heap G6 (fun e=>j.elim (fun m c=>e.elim m c.1));have B7:=O.heap B6 (fun e=>j.elim (fun m c=>e.elim c.2.1 c.2.2));have K7:=K6.trans O;clear O;go_wp2_with fail;refine(A4 _ r7).mono ?_;rintro e E ⟨rfl,r8,P⟩;have X:=show E.heap[a]?=some (.cells #[I_ g.cu,I_ 0,I_ d,S_ n] 307 (0,0)) from P.heap G7 (fun e=>j.elim (fun m c=>e.elim m c.1));have B8:=P.heap B7 (fun e=>j.elim (fun m c=>e.elim c.2.1 c.2.2));have K8:=K7.trans P;clear P;have A:=r8.c3;have aa:=cB (i:=1) X;have ab:C_ E a 1=some (I_ 0):=cp X rfl;have u:=cq.setCell (S:=fun k=>k=a) E ⟨a,1,none⟩ (I_ q.cu) (fun _=>rfl);have R9:=(r8.ct u (fun e=>j.1 (by have e:s=a:=e;exact e.symm)) (fun e=>NB (by have e:b=a:=e;exact e.symm)) (fun e=>j.2.1 (by have e:f=a:=e;exact e.symm)));have G9:=show(E.setCell ⟨a,1,none⟩ (I_ q.cu)).heap[a]?=some (.cells #[I_ g.cu,I_ q.cu,I_ d,S_ n] 307 (0,0)) from cz (i:=1) X (I_ q.cu);have B9:=(u.heap B8 (fun e=>ai.out (by have e:w.heap.size=a:=e;exact e.symm)));have K9:=(K8.dh u (fun i hi e=>by have e:i=a:=e;have:=aj.out;omega));clear u;go_wp2_with fail;clear A aa ab;generalize E.setCell ⟨a,1,none⟩ (I_ q.cu)=w9 at R9 G9 B9 K9 |-;refine(A5 _ R9).mono ?_;rintro e y ⟨rfl,ap,K⟩;have ad:=show y.heap[a]?=some (.cells #[I_ g.cu,I_ q.cu,I_ d,S_ n] 307 (0,0)) from K.heap G9 (fun e=>j.elim (fun m c=>e.elim m c.1))
 have aq:=K.heap B9 (fun e=>j.elim (fun m c=>e.elim c.2.1 c.2.2));have ar:=K9.trans K;clear K;have c0:=ap.c0;have ay:C_ y a 0=some (I_ g.cu):=cp ad rfl;go_wp2_with fail;go_still_tail 7,(by kernel_rfl);change wpList _ _ _ _ _ y.drew;have Z:=ap.ct (fw y) id id id;have ae:=show y.drew.heap[a]?=_ from ad;have ac:=show y.drew.heap[w.heap.size]?=_ from aq;have ah:=ar.trans (cq.drew _ y);generalize y.drew=aC at Z ae ac ah |-;clear c0 ay;go_wp2_with fail;refine(T _ Z).mono ?_;rintro e r ⟨rfl,ao,C⟩;have an:=Z.dI ao Z6 C;rw[af.out]at an;have G:=show r.heap[a]?=some (.cells #[I_ g.cu,I_ q.cu,I_ d,S_ n] 307 (0,0)) from C.heap ae j.2.1;have t:=show r.heap[w.heap.size]?=some (.cells #[I_ 0,I_ 0,I_ 0,.string ⟨#[]⟩] 307 (0,0)) from C.heap ac j.2.2.2;have au:=ah.trans (C.mono (fun _ _ e=>.inr e));have x0:C_ r a 0=some (I_ g.cu):=cp G rfl;have x1:C_ r a 1=some (I_ q.cu):=cp G rfl;have x2:C_ r a 2=some (I_ d):=cp G rfl;have x3:C_ r a 3=some (S_ n):=cp G rfl;have a0:C_ r w.heap.size 0=some (I_ 0):=cp t rfl;have a1:C_ r w.heap.size 1=some (I_ 0):=cp t rfl;have a2:C_ r w.heap.size 2=some (I_ 0):=cp t rfl;have a3:C_ r w.heap.size 3=some (.string ⟨#[]⟩):=cp t rfl;have q0:=cB (i:=0) t;have q1:=cB (i:=1) t;have q2:=cB (i:=2) t;have q3:=cB (i:=3) t;clear ao C;go_wp2_with fail;have I:=lI t (I_ g.cu) (I_ q.cu) (I_ d) (S_ n);have g0:=cp (i:=0) I rfl;have g1:=cp (i:=1) I rfl;have g2:=cp (i:=2) I rfl;have g3:=cp (i:=3) I rfl;have RF:=an.ct (fF r w.heap.size (I_ g.cu) (I_ q.cu) (I_ d) (S_ n)) (fun e=>j.2.2.1 (by have e:s=w.heap.size:=e;exact e.symm)) (fun e=>by have e:b=w.heap.size:=e;have:=LT;omega) (fun e=>j.2.2.2 (by have e:f=w.heap.size:=e;exact e.symm));exact bodyPost_ret (v:=.tuple #[Wd.val ⟨g.cu,q.cu,d,n⟩,I_ 0]) (by simp[results,results215,go_sem,Wd.val,g0,g1,g2,g3]) rfl ⟨rfl,RF,ei au _ _ _ _ _ (Nat.le_refl _)⟩
def Mem.iZ(m:Mem)(a fl:Int):Mem × Int :=
 match m.Ym a with
 | none=>(m,-256)
 | some (x,_)=>if fl<0\/255<fl then(m,-256)else m.setCell (a+8) (x.name.length+fl*256)
theorem wK{m:Mem}{a:Int}{d:Wd}{l:Int}(e:m.Ym a=some (d,l)):d.name.length<=31:=by
 unfold Mem.Ym at e;simp only at e;split at e
 . cases e
 . rename_i b
   split at e
   . cases e
   . cases e
     have c:¬ 31<(m.cell (a+8)).1 % 256:=fun h=>b (.inr (.inr (.inl h)));show(m.dJ (a+16) ((m.cell (a+8)).1 % 256)).1.length<=31;unfold Mem.dJ;split
     . simp only[gK];omega
     . simp
theorem H6(w:World)(b i:Nat)(m:Mem)(d:Wd)(c:Int)(h:dY w b i m)(H:0<=d.cM)(I:d.cM<=4194304)(R:0<=c)(S:c<=255) :
 Calls prog 37 #[cD b,d.val,I_ c] w fun e w'=>e=.returned (I_ (m.iZ d.cM c).2)/\dY w' b i (m.iZ d.cM c).1/\cq (fun g=>g=i) w w':=by
 obtain⟨a,xt,p,q⟩:=d;simp only at H I |-;unfold Wd.val;simp only;have n:=h_ fun V (E:dY V b i m)=>xE V b i m a E H I;have o:m.iZ a c=match m.Ym a with
  | none=>(m,-256)
  | some (x,_)=>if c<0\/255<c then(m,-256)else m.setCell (a+8) (x.name.length+c*256):=rfl
 generalize m.iZ a c=Q at o |-;have F:=fun d l (e:m.Ym a=some (d,l))=>wK e;generalize m.Ym a=r at o n F;cases r with
 | none =>
  simp only at o;subst o;unfold fT Wd.val Wd.none at n;simp only at n;have s:=h.ct (dR w (.cells #[I_ a,I_ xt,I_ p,S_ q] 53)) id id;have y:=cq.alloc (fun g=>g=i) w (.cells #[I_ a,I_ xt,I_ p,S_ q] 53);have G:=h_ (cx w (.cells #[I_ a,I_ xt,I_ p,S_ q] 53));go_enter func37,ntmps37;go_wp2_with fail;refine(n.out _ s).mono ?_;rintro e f ⟨rfl,j⟩;have B:=s.ct j id id;have z:=y.trans (j.mono (fun _ _ e=>e.elim));have D:C_ f w.heap.size 0=some (I_ a):=j.cell (cp G.out rfl) id;clear j
  skip
  have C:=B.ct (dR f (.cells #[I_ 0,I_ 0,I_ 0,.string ⟨#[]⟩] 53)) id id;have A:=z.trans (cq.alloc _ f (.cells #[I_ 0,I_ 0,I_ 0,.string ⟨#[]⟩] 53));go_wp2;go_ret;exact⟨rfl,C,A⟩
 | some x =>
  obtain⟨⟨t,v,u,k⟩,l⟩:=x;have M:=F _ _ rfl;simp only at M o;rw[if_neg (by omega)]at o;subst o;unfold fT Wd.val at n;simp only at n;have K:=fun V (E:dY V b i m)=>ed V b i m (a+8) (k.length+c*256) E;have T:wrap64 (c*256)=c*256:=IntWalk.wrap64_in _ (by omega);have U:wrap64 ((k.length:Int)+c*256)=(k.length:Int)+c*256:=IntWalk.wrap64_in _ (by omega);clear F;have s:=h.ct (dR w (.cells #[I_ a,I_ xt,I_ p,S_ q] 53)) id id;have y:=cq.alloc (fun g=>g=i) w (.cells #[I_ a,I_ xt,I_ p,S_ q] 53);have G:=h_ (cx w (.cells #[I_ a,I_ xt,I_ p,S_ q] 53));go_enter func37,ntmps37;go_wp2_with fail;refine(n.out _ s).mono ?_;rintro e f ⟨rfl,j⟩;have B:=s.ct j id id;have z:=y.trans (j.mono (fun _ _ e=>e.elim));have D:C_ f w.heap.size 0=some (I_ a):=j.cell (cp G.out rfl) id;clear j
  skip
  have C:=B.ct (dR f (.cells #[I_ t,I_ v,I_ u,S_ k] 53)) id id;have A:=z.trans (cq.alloc _ f (.cells #[I_ t,I_ v,I_ u,S_ k] 53));have O:=(dR f (.cells #[I_ t,I_ v,I_ u,S_ k] 53)).cell D id;have P:(f.alloc (.cells #[I_ t,I_ v,I_ u,S_ k] 53)).cell? ⟨f.heap.size,3,none⟩=some (S_ k):=cp (cx f _) rfl;clear D;go_wp2_with fail;refine(K _ C).mono ?_;rintro e W ⟨rfl,N,J⟩;have L:=A.trans J;clear J;go_wp2;go_ret;exact⟨rfl,N,L⟩
end Go.Proofs.dS
