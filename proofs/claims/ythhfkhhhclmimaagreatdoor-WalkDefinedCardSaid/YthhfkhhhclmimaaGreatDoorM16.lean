/- A part of WalkG. No condition. -/
import Derived.Test.YthhfkhhhclmimaaGreatDoorM15
import Derived.Test.YthhfkhhhclmimaaGreatDoorM02
import Derived.Test.YthhfkhhhclmimaaGreatDoorM11
set_option linter.unusedVariables false
set_option linter.unusedSimpArgs false
open Go.Proofs.Tryz
set_option maxRecDepth 10000
set_option maxHeartbeats 4000000
namespace Go.Proofs.dS
open Go Go.RowKit Go.Proofs.K
theorem th{w w':World}(h:Below w.heap.size w w'):K_ w w':=⟨h.os,h.tape,h.output,h.size,fun k hk _=>h.block k hk⟩
theorem AF(v:UInt8)(n:Nat):Lib.repeatL [v] n=List.replicate n v:=by
 induction n with
 | zero=>rfl
 | succ n a=>rw[List.replicate_succ,<- a];rfl
theorem Db(w:World)(v:UInt8)(n:Nat)(b:n<=1048576) :
 Calls prog 425 #[.string ⟨#[v]⟩,I_ n] w fun e w'=>e=.returned (S_ (List.replicate n v))/\K_ w w':=by
 refine(strings_Repeat ⟨#[v]⟩ n w (by omega) (by show 1*n<=_;omega)).mono ?_;rintro e w' ⟨rfl,a⟩;exact⟨by rw[<- AF],th a⟩
theorem AG(w:World)(b i:Nat)(m:Mem)(a c:Int)(h:dY w b i m)(O : -9223372036854775808<=c)(P:c<=9223372036854775807) :
 Calls prog 392 #[cD b,I_ a,I_ c] w (gV b i (Obj.make m a c) w):=by
 have g:=va w b i m c h O P;have j:=fun w h=>eu w b i m a h
 have v:Hid (Obj.make m a c=if(Obj.size m c).2≠0 then(m,(Obj.size m c).2)
 else if(m.cell a).2≠0 then(m,(m.cell a).2)
 else if(m.cS a (List.replicate (Obj.size m c).1.toNat 0)).2≠0 then m.cS a (List.replicate (Obj.size m c).1.toNat 0)
 else(m.cS a (List.replicate (Obj.size m c).1.toNat 0)).1.setCell a c):=rfl
 have o:(Obj.size m c).2=0->8<=(Obj.size m c).1/\(Obj.size m c).1<=1048576:=by
  unfold Obj.size;split
  . intro h;simp at h
  . split
    . intro h;simp at h
    . rename_i T
      intro _;simp only;omega
 generalize Obj.make m a c=r at v |-;generalize Obj.size m c=q at g v o;obtain⟨n,e⟩:=q;have d:=v.out;simp only at d g o;clear v;by_cases A:e=0
 . subst A
   have U:=o rfl;obtain⟨k,rfl⟩:∃ k:Nat,n=k:=⟨n.toNat,by omega⟩;rw[if_neg (by simp),show((k:Int)).toNat=k by omega]at d;have I:(List.replicate k (0:UInt8)).length<=9223372036854775807:=by rw[List.length_replicate];omega
   have x:=fun w h=>oJ w b i m a (List.replicate k 0) h I;have D:=h_ fun w=>Db w 0 k (by omega);clear o I;generalize List.replicate k (0:UInt8)=z at x D d;generalize m.cell a=y at j d;obtain⟨Z,M⟩:=y;simp only at j d;by_cases C:M=0
   . subst C
     rw[if_neg (by simp)]at d;generalize m.cS a z=t at x d;obtain⟨L,K⟩:=t;simp only at d;by_cases B:K=0
     . subst B
       rw[if_neg (by simp)]at d;have H:=fun w h=>ed w b i L a c h;generalize L.setCell a c=u at H d;subst d;go_enter func392,ntmps392;go_wp2_with fail;refine g.mono ?_;rintro e G ⟨rfl,f⟩;go_wp2_with fail;refine eD (j _ (h.ct f id id)) ?_;go_wp2_with fail;refine(D.out _).mono ?_;rintro e R ⟨rfl,p⟩;have l:=f.trans p;clear p;go_wp2_with fail;refine(x _ (h.ct l id id)).mono ?_;rintro e S ⟨rfl,F,s⟩;have E:=(l.mono (fun _ _=>False.elim)).trans s;clear s;go_wp2_with fail;refine(H _ F).mono ?_;rintro e Y ⟨rfl,Q,J⟩;have N:=E.trans J;clear J;go_wp2;go_ret;exact⟨rfl,Q,N⟩
     . rw[if_pos B]at d
       subst d;have W:(K != 0)=true:=by simp[B]
       clear B;go_enter func392,ntmps392;go_wp2_with fail;refine g.mono ?_;rintro e G ⟨rfl,f⟩;go_wp2_with fail;refine eD (j _ (h.ct f id id)) ?_;go_wp2_with fail;refine(D.out _).mono ?_;rintro e R ⟨rfl,p⟩;have l:=f.trans p;clear p;go_wp2_with fail;refine(x _ (h.ct l id id)).mono ?_;rintro e S ⟨rfl,F,s⟩;have E:=(l.mono (fun _ _=>False.elim)).trans s;clear s;go_wp2;go_ret;exact⟨rfl,F,E⟩
   . rw[if_pos C]at d
     subst d;have X:(M != 0)=true:=by simp[C]
     clear C;go_enter func392,ntmps392;go_wp2_with fail;refine g.mono ?_;rintro e G ⟨rfl,f⟩;go_wp2_with fail;refine eD (j _ (h.ct f id id)) ?_;go_wp2;go_ret;exact⟨rfl,h.ct f id id,f.mono (fun _ _=>False.elim)⟩
 . rw[if_pos A]at d
   subst d;have V:(e != 0)=true:=by simp[A]
   clear A o;go_enter func392,ntmps392;go_wp2_with fail;refine g.mono ?_;rintro e G ⟨rfl,f⟩;go_wp2;go_ret;exact⟨rfl,h.ct f id id,f.mono (fun _ _=>False.elim)⟩
theorem jX(m:Mem)(a c:Int):(Obj.make m a c).1.size=m.size:=by
 unfold Obj.make;split
 . rfl
 . split
   . rfl
   . split
     . exact m.eh _ _
     . rw[Mem.cQ];exact m.eh _ _
theorem Lp(w:World)(s b g:Nat)(x:Sp)(c:Int)(h:gR w s b g x)(V : -9223372036854775808<=c)(W:c<=9223372036854775807) :
 Calls prog 277 #[cD s,I_ c] w (ko s b g (Obj.dV x c) w):=by
 have C0:=h.c0;have t:=va w b g x.mem c h.mem V W
 have K:Hid (Obj.dV x c=if(Obj.size x.mem c).2≠0 then(x,0,(Obj.size x.mem c).2)
 else if(Obj.jC x (Obj.size x.mem c).1).2≠0 then(((Obj.jC x (Obj.size x.mem c).1).1.fN x.cu).1,0,(Obj.jC x (Obj.size x.mem c).1).2)
 else({ (Obj.jC x (Obj.size x.mem c).1).1 with mem:=(Obj.make (Obj.jC x (Obj.size x.mem c).1).1.mem x.align.1.cu c).1 },x.align.1.cu,(Obj.make (Obj.jC x (Obj.size x.mem c).1).1.mem x.align.1.cu c).2)):=rfl
 have U:∀ n,Hid (Obj.jC x n=if x.align.2≠0 then x.align else x.align.1.gA n):=fun n=>rfl;generalize Obj.dV x c=r at K |-;generalize Obj.size x.mem c=q at t K;obtain⟨n,e⟩:=q;have a:=K.out;simp only at a t;have C:=U n;clear K U;by_cases L:e=0
 . subst L
   rw[if_neg (by simp)]at a;have J:=fun w h=>lC w s b g x h;generalize Obj.jC x n=d at a C;generalize x.align=y at J a C;obtain⟨y,Q⟩:=y;simp only at a;have u:=C.out;simp only at u;clear C;have R:=fun w z h=>qR w s b g z x.cu h;by_cases A:Q=0
   . subst A
     rw[if_neg (by simp)]at u;have N:=fun w h=>lB w s b g y n h;generalize y.gA n=z at N u;subst u;obtain⟨z,ze⟩:=d;simp only at a;by_cases M:ze=0
     . subst M
       rw[if_neg (by simp)]at a;have S:=fun w h=>AG w b g z.mem y.cu c h V W;have X:=jX z.mem y.cu c;generalize Obj.make z.mem y.cu c=m at S a X;subst a;go_enter func277,ntmps277;go_wp2_with fail;refine t.mono ?_;rintro e P ⟨rfl,f⟩;have j:=f.mono (T:=fun k=>k=s\/k=g) (fun _ _=>False.elim);have l:=h.ct f id id id;clear f;go_wp2_with fail;refine eD (eJ _ _ _ _ _ l) ?_;go_wp2_with fail;refine(J _ l).mono ?_;rintro e Z ⟨rfl,p,o⟩;have D:=j.trans o;clear o;go_wp2_with fail;refine eD (eJ _ _ _ _ _ p) ?_;go_wp2_with fail;refine(N _ p).mono ?_;rintro e w3 ⟨rfl,H,G⟩;have O:=D.trans G;have C3:=H.c0;clear G;go_wp2_with fail;refine(S _ H.mem).mono ?_;rintro e w4 ⟨rfl,Y,i⟩;have F:=H.uM Y X i;have E:=O.trans (i.mono (fun _ _ e=>.inr e));clear Y i;go_wp2;go_ret2;exact⟨rfl,F,E⟩
     . rw[if_pos M]at a
       have B:=h_ fun w h=>R w z h;generalize z.fN x.cu=v at B a;subst a;have ad:(ze != 0)=true:=by simp[M]
       clear M;go_enter func277,ntmps277;go_wp2_with fail;refine t.mono ?_;rintro e P ⟨rfl,f⟩;have j:=f.mono (T:=fun k=>k=s\/k=g) (fun _ _=>False.elim);have l:=h.ct f id id id;clear f;go_wp2_with fail;refine eD (eJ _ _ _ _ _ l) ?_;go_wp2_with fail;refine(J _ l).mono ?_;rintro e Z ⟨rfl,p,o⟩;have D:=j.trans o;clear o;go_wp2_with fail;refine eD (eJ _ _ _ _ _ p) ?_;go_wp2_with fail;refine(N _ p).mono ?_;rintro e w3 ⟨rfl,H,G⟩;have O:=D.trans G;clear G;go_wp2_with fail;refine(B.out _ H).mono ?_;rintro e w4 ⟨rfl,I,i⟩;have F:=I;have E:=O.trans i;clear I i;go_wp2;go_ret2;exact⟨rfl,F,E⟩
   . rw[if_pos A]at u
     subst u;simp only at a;rw[if_pos A]at a;have B:=h_ fun w h=>R w y h;generalize y.fN x.cu=v at B a;subst a;have ab:(Q != 0)=true:=by simp[A]
     have ac:(Q == 0)=false:=by simp[A]
     clear A;go_enter func277,ntmps277;go_wp2_with fail;refine t.mono ?_;rintro e P ⟨rfl,f⟩;have j:=f.mono (T:=fun k=>k=s\/k=g) (fun _ _=>False.elim);have l:=h.ct f id id id;clear f;go_wp2_with fail;refine eD (eJ _ _ _ _ _ l) ?_;go_wp2_with fail;refine(J _ l).mono ?_;rintro e Z ⟨rfl,p,o⟩;have D:=j.trans o;clear o;go_wp2_with fail;refine eD (eJ _ _ _ _ _ p) ?_;go_wp2_with fail;refine(B.out _ p).mono ?_;rintro e w4 ⟨rfl,I,i⟩;have F:=I;have E:=D.trans i;clear I i;go_wp2;go_ret2;exact⟨rfl,F,E⟩
 . rw[if_pos L]at a
   subst a;have aa:(e != 0)=true:=by simp[L]
   clear L C;go_enter func277,ntmps277;go_wp2_with fail;refine t.mono ?_;rintro e P ⟨rfl,f⟩;have j:=f;clear f;go_wp2;go_ret2;exact⟨rfl,h.ct j id id id,j.mono (fun _ _=>False.elim)⟩
end Go.Proofs.dS
