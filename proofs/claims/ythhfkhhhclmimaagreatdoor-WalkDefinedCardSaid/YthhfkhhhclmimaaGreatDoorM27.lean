/- A part of WalkG. No condition. -/
import Derived.Test.YthhfkhhhclmimaaGreatDoorM06
import Derived.Test.YthhfkhhhclmimaaGreatDoorM26
import Derived.Test.YthhfkhhhclmimaaGreatDoorM09
set_option linter.unusedVariables false
set_option linter.unusedSimpArgs false
open Go.Proofs.Tryz
set_option maxRecDepth 10000
set_option maxHeartbeats 2000000
namespace Go.Proofs.dS
open Go Go.RowKit Go.Proofs.K
theorem xD(w:World)(s b i:Nat)(x:Sp)(h:gR w s b i x) :
 Calls prog 210 #[cD s] w (ko s b i (x.cF) w):=by
 have H:=h_ h;clear h
 have d:Hid (x.cF=if x.align.2≠0 then(x.align.1,0,x.align.2)
  else if(x.align.1.cN 0).2≠0 then((x.align.1.cN 0).1,0,(x.align.1.cN 0).2)
  else((x.align.1.cN 0).1,x.align.1.cu,0)):=rfl
 generalize x.cF=r at d |-;have t:=h_ (lC w s b i x H.out);generalize x.align=q at t d;obtain⟨y,e⟩:=q;simp only at d;go_enter func210,ntmps210;go_wp2_with fail;refine t.out.mono ?_;rintro p F ⟨rfl,B,v⟩;have j:=h_ B;have m:=h_ v;clear B v;by_cases f:e=0
 . have a:=d.out
   rw[if_neg (by simpa using f)]at a;have D:(e != 0)=false:=by simp[f]
   have u:=h_ (eP F s b i y 0 j.out);generalize y.cN 0=q at u a;obtain⟨z,k⟩:=q;simp only at a;have l:=h_ a;clear a d f;go_wp2_with fail;refine(eJ _ _ _ _ _ j.out).mono ?_;rintro p G ⟨rfl,rfl⟩;go_wp2_with fail;refine u.out.mono ?_;rintro p G ⟨rfl,C,A⟩;have o:=h_ C;have n:=h_ (m.out.trans A);clear C A;by_cases g:k=0
   . have a:=l.out
     rw[if_neg (by simpa using g)]at a;have E:(k != 0)=false:=by simp[g]
     have c:=h_ a;clear a g;go_wp2;go_ret2;exact⟨by rw[c.out];rfl,by rw[c.out];exact o.out,n.out⟩
   . have a:=l.out
     rw[if_pos g]at a;have E:(k != 0)=true:=by simp[g]
     have c:=h_ a;clear a g;go_wp2;go_ret2;exact⟨by rw[c.out];rfl,by rw[c.out];exact o.out,n.out⟩
 . have a:=d.out
   rw[if_pos f]at a;have D:(e != 0)=true:=by simp[f]
   have c:=h_ a;clear a f d;go_wp2;go_ret2;exact⟨by rw[c.out];rfl,by rw[c.out];exact j.out,m.out⟩
theorem Ly(w:World)(s b a:Nat)(x:Sp)(n:Int)(c d:Nat)(h:gR w s b a x)(i:w.cell? ⟨c,0,none⟩=some (cD s))(j:w.cell? ⟨d,0,none⟩=some (I_ n)) :
 Calls prog 148 #[cD c,cD d] w (iH s b a (x.cN n) w):=by
 have H:=eP w s b a x n h;clear h;go_enter func148,ntmps148;go_wp2_with fail;refine H.mono ?_;rintro e k ⟨rfl,f,g⟩;go_wp2;go_ret;exact⟨rfl,f,g⟩
theorem Lz(w:World)(s b d:Nat)(x:Sp)(c:List UInt8)(a:Int)(f g i:Nat)(h:gR w s b d x)(l:w.cell? ⟨f,0,none⟩=some (cD s))(m:w.cell? ⟨g,0,none⟩=some (S_ c))
 (n:w.cell? ⟨i,0,none⟩=some (I_ a)) (q:c.length<=31) (o:0<=a) (p:a<=255) :
 Calls prog 149 #[cD f,cD g,cD i] w (iH s b d (x.cN (c.length+a*256)) w):=by
 have H:=eP w s b d x (c.length+a*256) h;have r:IntKind.i64.wrap (a <<< 8)=a*256:=by
  rw[Int.shiftLeft_eq];exact IntWalk.i64_in _ (by omega)
 have t:IntKind.i64.wrap ((c.length:Int)+a*256)=(c.length:Int)+a*256:=IntWalk.i64_in _ (by omega);clear h;go_enter func149,ntmps149;go_wp2_with fail;refine H.mono ?_;rintro e u ⟨rfl,j,k⟩;go_wp2;go_ret;exact⟨rfl,j,k⟩
def eU(g:Nat)(a xt fl:Int)(name:List UInt8)(w:World):Prop:=w.heap[g]?=some (.cells #[I_ a,I_ xt,I_ fl,S_ name] 53 (0,0))
theorem LB(w:World)(s b d:Nat)(x:Sp)(a xt k:Int)(c:List UInt8)(g j:Nat)(h:gR w s b d x)(n:w.cell? ⟨g,0,none⟩=some (cD s))(f:eU j a xt k c w)(p:c.length<=31) :
 Calls prog 150 #[cD g,cD j] w (iH s b d (x.jl c) w):=by
 have H:=(JJ w s b d x c (by omega) h);have o:=cp (i:=3) f rfl;clear h f;go_enter func150,ntmps150;go_wp2_with fail;refine H.mono ?_;rintro e q ⟨rfl,l,m⟩;go_wp2;go_ret;exact⟨rfl,l,m⟩
theorem yn(w:World)(s b d:Nat)(x:Sp)(a xt j n:Int)(l:List UInt8)(m c o:Nat)(h:gR w s b d x)(z:w.cell? ⟨m,0,none⟩=some (cD s))(f:eU c a xt j l w)
 (B:w.cell? ⟨o,0,none⟩=some (I_ n)) (q:c≠s) (r:c≠b) (t:c≠d) (u:c≠m) (v:c≠o) :
 Calls prog 152 #[cD m,cD c,cD o] w fun e w'=>e=.returned (I_ (x.cN n).2)/\gR w' s b d (x.cN n).1/\eU c a x.cu j l w'/\cq (fun k=>k=s\/k=d\/k=c) w w':=by
 have y:=eJ w s b d x h;have E:=cB (i:=1) f;have D:=cp (i:=1) f rfl;have g:cq (fun k=>k=c) w (w.setCell ⟨c,1,none⟩ (I_ x.cu)):=cq.setCell _ _ _ (fun _=>rfl);have H:=eP (w.setCell ⟨c,1,none⟩ (I_ x.cu)) s b d x n (h.ct g (fun e=>q e.symm) (fun e=>r e.symm) (fun e=>t e.symm));have F:=g.cell z (fun e=>u e.symm);have G:=g.cell B (fun e=>v e.symm);have A:=h_ (show eU c a x.cu j l (w.setCell ⟨c,1,none⟩ (I_ x.cu)) from cz f _);clear h f r u v;go_enter func152,ntmps152;go_wp2_with fail;refine eD y ?_;go_wp2_with fail;refine H.mono ?_;rintro e I ⟨rfl,C,p⟩;go_wp2;go_ret;refine⟨rfl,C,p.heap A.out (fun e=>by rcases e with e | e;exact q e;exact t e),(g.mono (fun _ _ e=>.inr (.inr e))).trans (p.mono (fun _ _ e=>by rcases e with e | e;exact .inl e;exact .inr (.inl e)))⟩
theorem LD(w:World)(s b c:Nat)(x:Sp)(a xt q l:Int)(r:List UInt8)(k m n:Nat)(h:gR w s b c x)(t:w.cell? ⟨k,0,none⟩=some (cD s))(d:eU n a xt q r w)
 (u:w.cell? ⟨m,0,none⟩=some (I_ l)) :
 Calls prog 153 #[cD k,cD m,cD n] w (iH s b c (x.mG l a) w):=by
 have y:=h.c0;have v:=cp (i:=0) d rfl;have o:=ed w.drew b c x.mem l a h.mem.drew;clear d;go_enter func153,ntmps153;go_wp2_with fail;go_still_tail 7,(by kernel_rfl);change wpList _ _ _ _ _ w.drew;go_wp2_with fail;refine o.mono ?_;rintro e z j;obtain⟨rfl,f,g⟩:=j.drew;have p:=h.dI f (Mem.cQ _ _ _) g;clear f j;go_wp2;go_ret;exact⟨rfl,p,g.mono (fun _ _ e=>.inr e)⟩
end Go.Proofs.dS
