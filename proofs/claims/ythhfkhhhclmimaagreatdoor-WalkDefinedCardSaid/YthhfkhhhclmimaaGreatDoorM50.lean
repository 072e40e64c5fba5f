/- A part of WalkG. No condition. -/
import Derived.Test.YthhfkhhhclmimaaGreatDoorM47
set_option linter.unusedVariables false
set_option linter.unusedSimpArgs false
open Go.Proofs.Tryz
set_option maxRecDepth 10000
set_option maxHeartbeats 4000000
namespace Go.Proofs.dS
open Go Go.RowKit Go.Proofs.K Go.Proofs.tI
theorem RJ.fz{G:Gk}{F:Fk}{w:World}{Z:Nat->Prop}{q:Rd × Oo}(h:RJ (RO G F) G w Z q):Z F.fb:=by
 obtain⟨X,Y,_,⟨D,_,h2,_⟩,_,h4⟩:=h.parts;exact h4 _ (.inr (h2 _ (.inl rfl)))
theorem NT{w:World}{tb:Nat}(h:w.heap[tb]?=some (.cells #[.slice none 0 0,.slice none 0 0] 101 (0,0))):lV (fun g=>g=tb) w tb [] [] :=
 ⟨fun _=>False,none,none,0,0,⟨h,⟨rfl,[],qk.nil _ _⟩,fp.nil _ _ _,id,fun g hg=>by cases hg⟩,fun g hg=>hg.elim,rfl,fun g hg=>(by cases hg),fun g hg=>by rw[hg];exact cA h⟩
theorem Up{i n:Nat}(h:i<n):n-(intOf (I_ ((i:Int)+1))).toNat<n-(intOf (I_ (i:Int))).toNat:=by
 show n-((i:Int)+1).toNat<n-(i:Int).toNat
 omega
def sF(w:World)(e:Ending)(w':World):Prop:=∃ (G:Gk) (F:Fk) (tb j:Nat),e=.returned (.tuple #[cD F.fb,.bool true])/\GF G F/\ph j w w' G F tb
theorem A8(w:World)(hg:xM w)(a:Option Addr)(c:Nat)(L:List Fo.Act)(hL:sO w a L)(hA:∀ x ∈ L,rK x)(hf:L.length<=40) :
 Calls Tryz.prog 60 #[.slice a L.length c] w (sF w):=by
 have HM:=h_ fun V (k:K_ w V)=>Jb V (hg.cL k)
 have Vb:=h_ hL;have KU:=h_ hA;have H4:=h_ hg.lt;clear hg hL hA
 go_enter Tryz.func60,Tryz.ntmps60
 go_wp2_with fail;refine(HM.out _ (cq.refl _ _)).mono ?_;rintro e w3 ⟨G,F,Z,rfl,gf,j3,z3,k3⟩;have pW:=h_ gf;have K3:=h_ k3;have J3:=h_ j3;have Z3:=h_ z3;clear gf j3 z3 k3 HM;go_wp2_with fail;have hd:=cx w3 (.cells #[.slice none 0 0,.slice none 0 0] 101);have kd:=dR w3 (.cells #[.slice none 0 0,.slice none 0 0] 101);obtain⟨tb,htb⟩:∃ tb,tb=w3.heap.size:=⟨_,rfl⟩;rw[<- htb]at hd |-
 have HE:=h_ (show ph 0 w (w3.alloc (.cells #[.slice none 0 0,.slice none 0 0] 101)) G F tb from by
  refine⟨[],[],wT.q0,Z,fun g=>g=tb,wT.D0,[],fun _=>0,100000,J3.out.cL (pZ G F pW.out) kd,wT.XI,wT.Vt _,NT hd,Fo.NY.nil,fun g hg e=>?_,Z3.out,fun g e=>?_,K3.out.trans kd,by decide,?_,Nat.le_refl _,fun x hx=>absurd hx (List.not_mem_nil),H4.out⟩
  . have:=J3.out.lt g hg;have e:g=tb:=e;omega
  . have e:g=tb:=e;have:=K3.out.size;omega
  . exact Int.le_of_eq wT.QS.1)
 clear hd kd htb J3 Z3 K3;generalize w3.alloc (.cells #[.slice none 0 0,.slice none 0 0] 101)=W at HE |-
 go_loopw [18] (fun iv wr=>∃ i:Nat,iv=I_ i/\i<=L.length/\ph i w wr G F tb) (fun iv _=>L.length-(intOf iv).toNat)
 case atStart=>exact⟨0,rfl,Nat.zero_le _,HE.out⟩
 case round =>
  obtain⟨i,rfl,hi,P,TL,q,Z,T,D,S,τ,f,he⟩:=hrel;have HE:=h_ he;clear he;by_cases hlt:i<L.length
  . obtain⟨ag,ao,rfl,x0,x1,x2,x3,x4,x5⟩:=(Vb.out.cL HE.out.k) i hlt
    have hx:=KU.out _ (List.getElem_mem hlt);generalize L[i]=x at x0 x1 x2 x3 x4 x5 hx;have hi0:(0:Int)<=(i:Int):=by omega
    have YP:(i:Int)<(L.length:Int):=by omega
    have cw:wrap64 ((i:Int)+1)=(i:Int)+1:=IntWalk.wrap64_in _ (by omega)
    go_upto_region 8 with fail;have hgx:=cx wr (.cells #[.int .u8 (x.kind:Int),.int .u8 (x.p:Int),.int .u8 (x.c:Int),.int .u8 (x.cZ:Int),.int .u16 (x.n:Int),.bool x.lP] 103);have kx:=dR wr (.cells #[.int .u8 (x.kind:Int),.int .u8 (x.p:Int),.int .u8 (x.c:Int),.int .u8 (x.cZ:Int),.int .u16 (x.n:Int),.bool x.lP] 103);obtain⟨gx,hgx2⟩:∃ gx,gx=wr.heap.size:=⟨_,rfl⟩;rw[<- hgx2]at hgx |-;have hTx:¬ T gx:=fun e=>by have:=HE.out.NR.lt gx e;omega
    have PE:¬ Z gx:=fun e=>by have:=HE.out.rj.lt gx e;omega
    generalize wr.alloc (.cells #[.int .u8 (x.kind:Int),.int .u8 (x.p:Int),.int .u8 (x.c:Int),.int .u8 (x.cZ:Int),.int .u16 (x.n:Int),.bool x.lP] 103)=W1 at hgx kx |-;have E0:=h_ (HE.out.cL pW.out kx);have XU:=h_ hgx;have HN:=h_ (And.intro hTx PE);have hxk:=hx.kind;have HX:=h_ hx;clear hgx hgx2 kx hTx PE x0 x1 x2 x3 x4 x5 hx HE
    obtain⟨ta,ca,t0⟩:∃ ta ca,W1.cell? ⟨tb,0,none⟩=some (.slice ta TL.length ca):=by
     obtain⟨N,ta,YQ,ca,cb,ht,_,_,_,_⟩:=E0.out.NR;exact⟨_,_,cp ht.head rfl⟩
    have z0:W1.cell? ⟨gx,0,none⟩=some (.int .u8 (x.kind:Int)):=cp (i:=0) XU.out rfl;have hk0:(0:Int)<=(x.kind:Int)/\(x.kind:Int)<256:=by omega
    go_upto_region 9 with fail
    go_cut [32] (fun v32 wx=>v32=.bool (decide (x.kind % 3≠2) || decide (TL.length=0))/\W1=wx)
    case first =>
     by_cases e:(x.kind:Int) % 3=2
     . have e2:((x.kind:Int) % 3 != 2)=false:=by simp[e]
       have e3:(decide (x.kind % 3≠2) || decide (TL.length=0))=((TL.length:Int) == 0):=by
        rw[decide_eq_false (show ¬ x.kind % 3≠2 by omega),Bool.false_or]
        by_cases h0:TL.length=0
        . simp[h0]
        . rw[decide_eq_false h0];exact(beq_eq_false_iff_ne.2 (by omega)).symm
       have e4:=h_ e3;clear e e3;go_wp2_with fail
       go_meet
       exact⟨by rw[e4.out],rfl⟩
     . have e2:((x.kind:Int) % 3 != 2)=true:=by simp[e]
       have e4:=h_ (show(decide (x.kind % 3≠2) || decide (TL.length=0))=true by
        rw[decide_eq_true (show x.kind % 3≠2 by omega)];rfl)
       clear e;go_wp2_with fail
       go_meet
       exact⟨by rw[e4.out],rfl⟩
    case rest =>
     obtain⟨rfl,rfl⟩:=hcut
     cases hb:(decide (x.kind % 3≠2) || decide (TL.length=0))with
     | true =>
      clear hb t0 z0 ta ca;have kd:=fw W1;have E1:=h_ (E0.out.cL pW.out kd);have HB:=h_ (Da pW.out E1.out x HX.out (by omega))
      have hgd:=kd.heap XU.out id;have d0:=cp (i:=0) hgd rfl;have d1:=cp (i:=1) hgd rfl;have d2:=cp (i:=2) hgd rfl;have d3:=cp (i:=3) hgd rfl;have d4:=cp (i:=4) hgd rfl;have d5:=cp (i:=5) hgd rfl;have df:=E1.out.rj.f0;have XV:=h_ fun V (k:cq T W1.drew V)=>(show V.cell? ⟨F.fb,0,none⟩=some (cD G.ob)/\V.cell? ⟨gx,0,none⟩=some (.int .u8 (x.kind:Int))/\V.cell? ⟨gx,1,none⟩=some (.int .u8 (x.p:Int))/\V.cell? ⟨gx,2,none⟩=some (.int .u8 (x.c:Int))/\V.cell? ⟨gx,3,none⟩=some (.int .u8 (x.cZ:Int))/\V.cell? ⟨gx,4,none⟩=some (.int .u16 (x.n:Int))/\V.cell? ⟨gx,5,none⟩=some (.bool x.lP) from⟨k.cell df (fun e=>E1.out.zt _ (E1.out.rj.fz) e),k.cell d0 HN.out.1,k.cell d1 HN.out.1,k.cell d2 HN.out.1,k.cell d3 HN.out.1,k.cell d4 HN.out.1,k.cell d5 HN.out.1⟩)
      have IV:=h_ fun V U (k:cq T W1.drew V) (k3:cq Z V U) (e3:ph (i+1) w U G F tb)=>(show U.cell? ⟨F.fb,0,none⟩=some (cD G.ob)/\U.cell? ⟨gx,0,none⟩=some (.int .u8 (x.kind:Int))/\U.cell? ⟨gx,1,none⟩=some (.int .u8 (x.p:Int))/\U.cell? ⟨gx,2,none⟩=some (.int .u8 (x.c:Int))/\U.cell? ⟨gx,3,none⟩=some (.int .u8 (x.cZ:Int))/\U.cell? ⟨gx,4,none⟩=some (.int .u16 (x.n:Int))/\U.cell? ⟨gx,5,none⟩=some (.bool x.lP) from by
       obtain⟨_,_,q2,Z2,_,_,_,_,_,h⟩:=e3;obtain⟨_,c0,c1,c2,c3,c4,c5⟩:=XV.out V k
       exact⟨h.rj.f0,k3.cell c0 HN.out.2,k3.cell c1 HN.out.2,k3.cell c2 HN.out.2,k3.cell c3 HN.out.2,k3.cell c4 HN.out.2,k3.cell c5 HN.out.2⟩)
      clear hgd hk0 hxk;go_wp2_with fail
      go_region_held3 (fun V=>V.cell? ⟨F.fb,0,none⟩=some (cD G.ob)/\V.cell? ⟨gx,0,none⟩=some (.int .u8 (x.kind:Int))/\V.cell? ⟨gx,1,none⟩=some (.int .u8 (x.p:Int))/\V.cell? ⟨gx,2,none⟩=some (.int .u8 (x.c:Int))/\V.cell? ⟨gx,3,none⟩=some (.int .u8 (x.cZ:Int))/\V.cell? ⟨gx,4,none⟩=some (.int .u16 (x.n:Int))/\V.cell? ⟨gx,5,none⟩=some (.bool x.lP))
       (first | exact⟨df,d0,d1,d2,d3,d4,d5⟩ | exact IV.out _ _ k2 k3 e3 | exact XV.out _ k2)
       (first
         | (go_at_call 17;refine(ht _ (cq.refl _ _)).mono ?_;rintro e w3 ⟨rfl,e3,k3⟩)
         | (go_at_call 48;refine HB.out.mono ?_;rintro e w2 ⟨t,rfl,k2,ht⟩))
      have E3:=h_ e3;clear XV IV HB E1 k2 k3 e3 ht df d0 d1 d2 d3 d4 d5;go_wp2_with fail
      go_roundw
      case rel=>exact⟨i+1,by go_num,hlt,E3.out⟩
      case measure=>exact Up hlt
     | false =>
      rw[Bool.or_eq_false_iff]at hb;have hn0:TL.length≠0:=of_decide_eq_false hb.2;clear hb z0;have WE:((TL.length:Int) == 0)=false:=beq_eq_false_iff_ne.2 (by omega)
      have hA1:(0:Int)<(TL.length:Int):=by omega
      have hA2:¬ (TL.length:Int)=0:=by omega
      have hA3:¬ TL.length=0:=by omega
      have Pf:¬ TL=[]:=fun e=>by rw[e]at hn0;exact hn0 rfl
      have hxc:=HX.out.c;have hxs:=HX.out.cZ;obtain⟨k,hk⟩:∃ k,k=x.c % TL.length:=⟨_,rfl⟩;have hkl:k<TL.length:=by rw[hk];exact Nat.mod_lt _ (by omega)
      have hck:(x.c:Int) % (TL.length:Int)=(k:Int):=by rw[hk];exact(Int.natCast_emod _ _).symm
      have IW:(0:Int)<=(x.c:Int)/\(x.c:Int)<256:=by omega
      obtain⟨s,hs⟩:∃ s,s=x.cZ % 5:=⟨_,rfl⟩;have hsk:(x.cZ:Int) % 5=(s:Int):=by omega
      have IX:(0:Int)<=(x.cZ:Int)/\(x.cZ:Int)<256:=by omega
      have hTL:=E0.out.tok.len;have Ml:=E0.out.pj;have hk1:k<=40:=by omega
      have F9:k<=1000:=by omega
      have b1:x.c<=1000:=by omega
      have b3:s<=1000:=by omega
      have PZ:=h_ fun V=>pG k (by omega) V
      have P1:=h_ fun V=>nY s (by omega) V
      have Ug:(Fo.eS k).length<=6:=by
       have:=(Fo.jw k (by omega)).2
       show(Fo.dg k).length+1<=6
       omega
      have Uh:=(Fo.jw s (by omega)).2
      have P2:=h_ (show [111]++Fo.eS k++[32,45,62,32,109]++Fo.dg s++[10,110,111,110,115,117,99,104,119,111,114,100]=Fo.gb k s from by
       unfold Fo.gb Fo.gi Fo.dz Fo.se
       simp only[List.append_assoc,List.cons_append,List.nil_append])
      have HT1:=h_ fun V (kv:K_ W1 V)=>(show Calls Tryz.prog 17 #[cD G.ob,.string (⟨#[111]⟩++⟨(Fo.eS k).toArray⟩++⟨#[32,45,62,32,109]⟩++⟨(Fo.dg s).toArray⟩++⟨#[10,110,111,110,115,117,99,104,119,111,114,100]⟩)] V (fun e w3=>(∃ l:Int,e=.returned (I_ l))/\ph (i+1) w w3 G F tb/\cq Z V w3) from by
       have h1:=zn pW.out (E0.out.cL pW.out kv) (c:=k) (s:=s) hkl (by omega) (by omega)
       rw[<- P2.out]at h1;simp only[S_,<- pd]at h1
       exact h1)
      clear P2;generalize Fo.eS k=KN at *;generalize Fo.dg s=SN at *;have l1:¬ 9223372036854775807<1+KN.length:=by omega
      have l2:¬ 9223372036854775807<1+KN.length+5:=by omega
      have l3:¬ 9223372036854775807<1+KN.length+5+SN.length:=by omega
      have l4:¬ 9223372036854775807<1+KN.length+5+SN.length+12:=by omega
      have Un:(k:Int)<(TL.length:Int):=by omega
      have Uo:=h_ (show T tb from by obtain⟨_,_,_,_,_,_,_,h3,_,_⟩:=E0.out.NR;exact h3)
      have c2:W1.cell? ⟨gx,2,none⟩=some (.int .u8 (x.c:Int)):=cp (i:=2) XU.out rfl;have c3:W1.cell? ⟨gx,3,none⟩=some (.int .u8 (x.cZ:Int)):=cp (i:=3) XU.out rfl;have cf:=E0.out.rj.f0;have XV:=h_ fun V (k:K_ W1 V)=>(show V.cell? ⟨F.fb,0,none⟩=some (cD G.ob)/\V.cell? ⟨gx,2,none⟩=some (.int .u8 (x.c:Int))/\V.cell? ⟨gx,3,none⟩=some (.int .u8 (x.cZ:Int))/\V.cell? ⟨tb,0,none⟩=some (.slice ta TL.length ca) from⟨k.cell cf id,k.cell c2 id,k.cell c3 id,k.cell t0 id⟩)
      have IV:=h_ fun V U (k:K_ W1 V) (k3:cq Z V U) (e3:ph (i+1) w U G F tb)=>(show U.cell? ⟨F.fb,0,none⟩=some (cD G.ob)/\U.cell? ⟨gx,2,none⟩=some (.int .u8 (x.c:Int))/\U.cell? ⟨gx,3,none⟩=some (.int .u8 (x.cZ:Int))/\U.cell? ⟨tb,0,none⟩=some (.slice ta TL.length ca) from by
       obtain⟨_,_,q2,Z2,_,_,_,_,_,h⟩:=e3;obtain⟨_,d2,d3,d4⟩:=XV.out V k
       exact⟨h.rj.f0,k3.cell d2 HN.out.2,k3.cell d3 HN.out.2,k3.cell d4 (fun e=>E0.out.zt _ e Uo.out)⟩)
      have MC:=fw W1;have hct:(IntKind.i64.wrap (x.c:Int)).tmod (TL.length:Int)=(k:Int):=by rw[(wrap_small x.c b1).2,Int.tmod_eq_emod_of_nonneg IW.1];exact hck
      obtain⟨hwk,YR⟩:=wrap_small k F9;have hsu:IntKind.i64.wrap ((x.cZ:Int).tmod 5)=(s:Int):=by rw[Int.tmod_eq_emod_of_nonneg IX.1,hsk];exact(wrap_small s b3).2
      clear b1 hck IW hsk IX b3;clear hs hk hkl hk1 hn0 hTL Ml hxc hxs hxk hk0;go_wp2_with fail
      go_region_held3 (fun V=>V.cell? ⟨F.fb,0,none⟩=some (cD G.ob)/\V.cell? ⟨gx,2,none⟩=some (.int .u8 (x.c:Int))/\V.cell? ⟨gx,3,none⟩=some (.int .u8 (x.cZ:Int))/\V.cell? ⟨tb,0,none⟩=some (.slice ta TL.length ca))
       (first | exact IV.out _ _ Uq k3 e3 | exact XV.out _ Uq | exact XV.out _ MU | exact XV.out _ MC)
       (first
         | (go_at_call 17;refine(HT1.out _ Uq).mono ?_;rintro e w4 ⟨⟨l,rfl⟩,e3,k3⟩)
         | (go_at_call 52;refine(PZ.out _).mono ?_;rintro e u1 ⟨rfl,k1⟩;have MU:=MC.trans k1)
         | (go_at_call 49;refine(P1.out _).mono ?_;rintro e u2 ⟨rfl,k2⟩;have Uq:=MU.trans k2))
      have E3:=h_ e3;clear XV IV HT1 PZ P1 MC MU Uq k1 k2 k3 e3 c2 c3 cf t0 l1 l2 l3 l4 WE hA1 Un;go_wp2_with fail
      go_roundw
      case rel=>exact⟨i+1,by go_num,hlt,E3.out⟩
      case measure=>exact Up hlt
  . have he:i=L.length:=by omega
    subst he;go_wp2_with fail;go_ret2
    exact⟨G,F,tb,_,rfl,pW.out,P,TL,q,Z,T,D,S,τ,f,HE.out⟩
end Go.Proofs.dS
