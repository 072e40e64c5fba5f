/- A part of EarlyG. No condition. -/
import Derived.Test.YthhfkhhhclmimaaGreatDoorM04
set_option linter.unusedVariables false
set_option linter.unusedSimpArgs false
open Go.Proofs.Tryz
set_option maxRecDepth 10000
set_option maxHeartbeats 4000000
namespace Go.Proofs.dS
open Go Go.RowKit Go.Proofs.K
structure lY(w:World)(s b bb:Nat)(x:Sp):Prop where
 head:w.heap[s]?=some (.cells #[cD b,I_ x.lo,I_ x.to,I_ x.cu] 158 (0,0))
 mem:qJ w b bb x.mem
 yF:s≠b
 sT:s≠bb
 ok:x.Ok
namespace lY
variable {w w':World} {s b bb:Nat} {x:Sp}
theorem ct(h:lY w s b bb x){S:Nat->Prop}(k:cq S w w')(a:¬ S s)(c:¬ S b)(d:¬ S bb):lY w' s b bb x :=
 ⟨k.heap h.head a,h.mem.ct k c d,h.yF,h.sT,h.ok⟩
theorem c0(h:lY w s b bb x):w.cell? ⟨s,0,none⟩=some (cD b):=cp h.head rfl
theorem c2(h:lY w s b bb x):w.cell? ⟨s,2,none⟩=some (I_ x.to):=cp h.head rfl
theorem c3(h:lY w s b bb x):w.cell? ⟨s,3,none⟩=some (I_ x.cu):=cp h.head rfl
theorem f(h:lY w s b bb x)(i:Nat):w.frozen? ⟨s,i,none⟩=false:=cB h.head
theorem bd(h:lY w s b bb x):0<=x.lo/\x.lo<=x.cu/\x.cu<=x.to/\x.to<=4194304:=by
 obtain⟨a,c,d,e⟩:=h.ok;have:=h.mem.le;exact⟨a,c,d,by omega⟩
theorem dI(h:lY w s b bb x){m:Mem}(a:qJ w' b bb m)(c:m.size=x.mem.size)(k:cq (fun j=>j=bb) w w'):lY w' s b bb { x with mem:=m } :=
 ⟨k.heap h.head h.sT,a,h.yF,h.sT,h.ok.1,h.ok.2.1,h.ok.2.2.1,by show x.to<=m.size;rw[c];exact h.ok.2.2.2⟩
theorem oK(h:lY w s b bb x)(n:Int)(a:x.lo<=n)(c:n<=x.to):lY (w.setCell ⟨s,3,none⟩ (I_ n)) s b bb { x with cu:=n } :=
 ⟨cz h.head _,h.mem.ct (cq.setCell (S:=fun j=>j=s) _ _ _ (fun _=>rfl)) (fun e=>h.yF e.symm) (fun e=>h.sT e.symm),h.yF,h.sT,h.ok.1,a,c,h.ok.2.2.2⟩
end lY
theorem ES(w:World)(s b bb:Nat)(x:Sp)(n:Int)(h:lY w s b bb x):Calls prog 366 #[cD s,I_ n] w fun e w'=>e=.returned (.bool (decide (n<=x.to-x.cu)))/\K_ w w':=by
 have g:=h.c2;have i:=h.c3;obtain⟨a,c,d,f⟩:=h.bd;have j:IntKind.i64.wrap (x.to-x.cu)=x.to-x.cu:=IntWalk.i64_in _ (by omega);have k:wrap64 (x.to-x.cu)=x.to-x.cu:=IntWalk.wrap64_in _ (by omega);clear h;go_enter func366,ntmps366;go_wp2_with fail;go_region
 go_wp2;go_ret;exact⟨rfl,cq.drew _ _⟩
theorem Sp.CM{x:Sp}{n:Int}(h:(x.cN n).2=0):8<=x.to-x.cu/\(x.mem.setCell x.cu n).2=0/\(x.cN n).1={ x with mem:=(x.mem.setCell x.cu n).1,cu:=x.cu+8 }:=by
 unfold Sp.cN Sp.put at h |-;split at h
 . rename_i c
   rw[if_pos c];split at h
   . rename_i a;exact absurd h a
   . rename_i a
     rw[if_neg a];unfold Sp.gA at h |-;split at h
     . cases h
     . rename_i d
       rw[if_neg d];exact⟨c,by simpa using a,rfl⟩
 . unfold Sp.gA at h
   split at h
   . cases h
   . rename_i c d;exfalso;omega
theorem Sp.CN{x:Sp}{t:List UInt8}(h:(x.jl t).2=0):(t.length:Int)<=x.to-x.cu/\(x.mem.cS x.cu t).2=0/\(x.jl t).1={ x with mem:=(x.mem.cS x.cu t).1,cu:=x.cu+t.length }:=by
 unfold Sp.jl Sp.put at h |-;split at h
 . rename_i c
   rw[if_pos c];split at h
   . rename_i a;exact absurd h a
   . rename_i a
     rw[if_neg a];unfold Sp.gA at h |-;split at h
     . cases h
     . rename_i d
       rw[if_neg d];exact⟨c,by simpa using a,rfl⟩
 . unfold Sp.gA at h
   split at h
   . cases h
   . rename_i c d;exfalso;omega
def GM(s b bb:Nat)(x:Sp)(w:World)(e:Ending)(w':World):Prop:=e=.returned (I_ 0)/\lY w' s b bb x/\cq (fun k=>k=s\/k=bb) w w'
theorem kb(w:World)(s b bb:Nat)(x:Sp)(n:Int)(z:(x.cN n).2=0)(h:lY w s b bb x):Calls prog 213 #[cD s,I_ n] w (GM s b bb (x.cN n).1 w):=by
 obtain⟨j,v,y⟩:=Sp.CM z;rw[y];have p:=ES w s b bb x 8 h;rw[decide_eq_true j]at p;have i:=fun V (K:lY V s b bb x)=>qj V b bb x.mem x.cu n K.mem;rw[v]at i;have q:=Mem.cQ x.mem x.cu n;generalize (x.mem.setCell x.cu n).1=m at i q |-;obtain⟨G,t,H,I⟩:=h.bd;have o:=And.intro t j;have M:wrap64 (x.cu+8)=x.cu+8:=IntWalk.wrap64_in _ (by omega);clear z j v y G t H I;go_enter func213,ntmps213;go_wp2_with fail;refine p.mono ?_;rintro e a ⟨rfl,A⟩;have c:=h.ct A id id id;have J:=c.c0;have u:=c.c3;go_wp2_with fail;go_still_tail 9,(by kernel_rfl);change wpList _ _ _ _ _ a.drew;have d:=c.ct (fw a) id id id;have r:=A.trans (fw a);generalize a.drew=N at d r |-;clear J u;go_wp2_with fail;refine(i _ d).mono ?_;rintro e C ⟨rfl,B,l⟩;have g:=d.dI B q l;have E:=(r.mono (T:=fun k=>k=s\/k=bb) (fun _ _ e=>e.elim)).trans (l.mono (fun _ _ e=>.inr e));have u:C_ C s 3=some (I_ x.cu):=g.c3;have L:=g.f 3;clear B l;have D:=(g.oK (x.cu+8) (by show x.lo<=_;have:=o;omega) (by show _<=x.to;have:=o;omega));have F:=E.trans ((cq.setCell (S:=fun k=>k=s) C ⟨s,3,none⟩ (I_ (x.cu+8)) (fun _=>rfl)).mono (fun _ _ e=>.inl e));go_wp2;go_ret;exact⟨rfl,D,F⟩
theorem Ah(w:World)(s b bb:Nat)(x:Sp)(t:List UInt8)(L:t.length<=4194304)(z:(x.jl t).2=0)(h:lY w s b bb x):Calls prog 369 #[cD s,S_ t] w (GM s b bb (x.jl t).1 w):=by
 obtain⟨j,v,y⟩:=Sp.CN z;rw[y];have o:=ES w s b bb x t.length h;rw[decide_eq_true j]at o;have i:=fun V (K:lY V s b bb x)=>CL V b bb x.mem x.cu t K.mem L;rw[v]at i;have p:=Mem.eh x.mem x.cu t;generalize (x.mem.cS x.cu t).1=m at i p |-;obtain⟨G,r,H,I⟩:=h.bd;have n:=And.intro r j;have N:wrap64 (x.cu+t.length)=x.cu+t.length:=IntWalk.wrap64_in _ (by omega);clear z j v y G r H I;go_enter func369,ntmps369;go_wp2_with fail;refine o.mono ?_;rintro e a ⟨rfl,A⟩;have c:=h.ct A id id id;have J:=c.c0;have u:=c.c3;go_wp2_with fail;go_still_tail 9,(by kernel_rfl);change wpList _ _ _ _ _ a.drew;have d:=c.ct (fw a) id id id;have q:=A.trans (fw a);generalize a.drew=O at d q |-;clear J u;go_wp2_with fail;refine(i _ d).mono ?_;rintro e C ⟨rfl,B,l⟩;have g:=d.dI B p l;have E:=(q.mono (T:=fun k=>k=s\/k=bb) (fun _ _ e=>e.elim)).trans (l.mono (fun _ _ e=>.inr e));have u:C_ C s 3=some (I_ x.cu):=g.c3;have M:=g.f 3;clear B l;have D:=(g.oK (x.cu+t.length) (by show x.lo<=_;have:=n;omega) (by show _<=x.to;have:=n;omega));have F:=E.trans ((cq.setCell (S:=fun k=>k=s) C ⟨s,3,none⟩ (I_ (x.cu+t.length)) (fun _=>rfl)).mono (fun _ _ e=>.inl e));go_wp2;go_ret;exact⟨rfl,D,F⟩
theorem Sp.JT(x:Sp):x.jl [0]=x.char 0:=by
 unfold Sp.jl Sp.char;have:x.mem.cS x.cu [0]=x.mem.Yo x.cu 0:=rfl;rw[this];rfl
theorem Sp.CO{x:Sp}(h:x.align.2=0)(a:x.cu % 8≠0):(x.char 0).2=0:=by
 by_cases e:(x.char 0).2=0
 . exact e
 . exfalso
   unfold Sp.align at h;rw[Sp.fD,if_neg a,if_pos e]at h;exact e h
theorem uL(w:World)(s b bb:Nat)(x:Sp)(v:x.align.2=0)(h:lY w s b bb x):Calls prog 367 #[cD s] w (GM s b bb x.align.1 w):=by
 go_enter func367,ntmps367;go_wp2_with fail
 go_loopw [2,3] (fun _ _ wr=>∃ y:Sp,y.align=x.align/\lY wr s b bb y/\cq (fun k=>k=s\/k=bb) w wr)
  (fun _ _ wr=>match C_ wr s 3 with | some (.int _ n)=>((8-n % 8) % 8).toNat | _=>0)
 case atStart=>exact⟨x,rfl,h,cq.refl _ _⟩
 case round =>
  obtain⟨y,f,d,o⟩:=hrel;have t:=d.c3;obtain⟨B,C,D,E⟩:=d.bd;have F:y.cu.tmod 8=y.cu % 8:=Int.tmod_eq_emod_of_nonneg (by omega);by_cases a:y.cu % 8=0
  . have m:(y.cu % 8 != 0)=false:=by simp[a]
    have A:y.align=(y,0):=by unfold Sp.align;rw[Sp.fD,if_pos a]
    clear a;go_wp2;go_ret;rw[<- f,A];exact⟨rfl,d,o⟩
  . have m:(y.cu % 8 != 0)=true:=by simp[a]
    have c:(y.char 0).2=0:=Sp.CO (by rw[f];exact v) a;have g:=(Ah wr s b bb y [0] (by decide) (by rw[Sp.JT];exact c) d);rw[Sp.JT]at g;have z:=h_ (Sp.um y a c);have u:=Sp.pt 0 c;have p:=t;clear c a;go_wp2_with fail;refine g.mono ?_;rintro e G ⟨rfl,j,l⟩;have r:=o.trans l;have q:=j.c3;clear l;go_wp2;go_roundw;case rel=>exact⟨_,by rw[<- f,z.out],j,r⟩
    case measure =>
     have i:=q;rw[u]at i;simp only[p,i];have:¬ y.cu % 8=0:=by simpa using m
     omega
theorem GN(w:World)(b o:Nat)(m:Mem)(c a:Int)(h:qJ w b o m)(d:0<=c)(i:c % 8=0)(j:a % 8=0)(k:a<=m.size)(l:16<=a-c) :
 Calls prog 133 #[cD b,I_ c,I_ a] w fun e w'=>e=.returned (.bool true)/\w=w':=by
 have q:=h.cell;have p:=h.le;have f:c.tmod 8=0:=by rw[Int.tmod_eq_emod_of_nonneg d];exact i
 have g:a.tmod 8=0:=by rw[Int.tmod_eq_emod_of_nonneg (by omega)];exact j
 have n:wrap64 (a-c)=a-c:=IntWalk.wrap64_in _ (by omega);have r:decide (0<=c)=true:=decide_eq_true d;have s:(c.tmod 8 == 0)=true:=by rw[f];rfl
 have t:(a.tmod 8 == 0)=true:=by rw[g];rfl
 have u:decide (a<=(m.size:Int))=true:=decide_eq_true k;have v:decide (c<=a)=true:=decide_eq_true (by omega);have x:decide ((16:Int)<=wrap64 (a-c))=true:=decide_eq_true (by rw[n];exact l);clear h n d i j k l f g p;go_enter func133,ntmps133;go_upto_region 2 with fail;generalize m.size=y at *;go_wp2;go_ret;exact⟨rfl,rfl⟩
theorem JU(w:World)(b d:Nat)(m:Mem)(a c:Int)(h:qJ w b d m)(n:0<=a)(o:c<=m.size)(p:a<=c) :
 Calls prog 134 #[cD b,I_ a,I_ c] w fun e w'=>∃ g:Nat,e=.returned (cD g)/\qJ w' b d (m.setCell a (c-a)).1/\w.heap.size<=g/\cq (fun k=>k=d) w w':=by
 have q:=h.le;have i:wrap64 (c-a)=c-a:=IntWalk.wrap64_in _ (by omega);have f:=qj w b d m a (c-a) h;generalize m.setCell a (c-a)=r at f |-;rw[<- i]at f;clear i h q n o p;go_enter func134,ntmps134;go_wp2_with fail;refine f.mono ?_;rintro e t ⟨rfl,s,j⟩;go_wp2;go_ret;have l:=dR t (.cells #[cD b,I_ a,I_ c] 305);exact⟨_,rfl,s.ct l id id,j.size,j.trans (l.mono (fun _ _ e=>e.elim))⟩
end Go.Proofs.dS
