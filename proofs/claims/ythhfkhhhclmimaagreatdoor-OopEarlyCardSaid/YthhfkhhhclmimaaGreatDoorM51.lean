/- A part of EarlyG. No condition. -/
import Derived.Test.YthhfkhhhclmimaaGreatDoorM49
set_option linter.unusedVariables false
set_option linter.unusedSimpArgs false
open Go.Proofs.Tryz
set_option maxRecDepth 10000
set_option maxHeartbeats 4000000
namespace Go.Proofs.dS
open Go Go.RowKit Go.Proofs.K Go.Proofs.tI
theorem RJ.fz{G:Gk}{F:Fk}{w:World}{Z:Nat->Prop}{q:Rd × Oo}(h:RJ (RO G F) G w Z q):Z F.fb:=by
 obtain⟨X,Y,_,⟨D,_,a,_⟩,_,b⟩:=h.parts;exact b _ (.inr (a _ (.inl rfl)))
theorem NT{w:World}{b:Nat}(h:w.heap[b]?=some (.cells #[.slice none 0 0,.slice none 0 0] 101 (0,0))):lV (fun g=>g=b) w b [] [] :=
 ⟨fun _=>False,none,none,0,0,⟨h,⟨rfl,[],qk.nil _ _⟩,fp.nil _ _ _,id,fun g a=>by cases a⟩,fun g a=>a.elim,rfl,fun g a=>(by cases a),fun g a=>by rw[a];exact cA h⟩
theorem Up{i n:Nat}(h:i<n)(a:wrap64 ((i:Int)+1)=(i:Int)+1):n-(intOf (I_ (wrap64 ((i:Int)+1)))).toNat<n-(intOf (I_ (i:Int))).toNat:=by
 rw[a];show n-((i:Int)+1).toNat<n-(i:Int).toNat
 omega
theorem Gh{w:World}{g:Nat}{t:TypeId}{L:List Int}(h:w.heap[g]?=some (.cells (L.map fun n=>Value.int .i64 n).toArray t (0,0))):iI w (some ⟨g,0,none⟩) L:=fun i a=>⟨g,0,rfl,by
 rw[Nat.zero_add]
 exact cp h (by simp[a])⟩
theorem NU(v:Option Int):(Fo.told v).length<=1000000:=by
 cases v with
 | none=>decide
 | some n=>exact(by decide:3<=1000000)
theorem iI.cL{w w':World}{a:Option Addr}{L:List Int}{S:Nat->Prop}(h:iI w a L)(k:cq S w w')(n:∀ g,dF a=some g->¬ S g):iI w' a L:=fun i c=>by
 obtain⟨g,o,e,b⟩:=h i c;exact⟨g,o,e,k.cell b (n g (by rw[e];rfl))⟩
def Jd(w:World)(e:Ending)(w':World):Prop:=e=.returned (.bool true)/\K_ w w'
theorem Qz(w:World)(D:xM w)(a:Option Addr)(c:Nat)(L:List Fo.Act)(hL:sO w a L)(hA:∀ x ∈ L,rK x)(wh se:Nat)(bB:wh<=255)(bw:se<=255) :
 Calls prog 6 #[.slice a L.length c,.int .u8 (wh:Int),.int .u8 (se:Int)] w (Jd w):=by
 have an:=h_ fun V (k:K_ w V)=>zD V (D.cL k);have aB:=h_ fun V=>Un V a L.length c;have HM:=h_ fun V (k:K_ w V)=>Jb V (D.cL k);have a0:=h_ hL;have a5:=h_ hA;have H4:=h_ D.lt;clear D hL hA;by_cases hf:L.length<=40
 . have bP:decide ((L.length:Int)<=40)=true:=decide_eq_true (by omega)
   go_enter func6,ntmps6;go_wp2_with fail;refine VB (an.out w (cq.refl _ _)) ?_;intro w1 K1;go_wp2_with fail;refine(aB.out w1).mono ?_;rintro e w2 ⟨rfl,rfl⟩;go_wp2_with fail;refine(HM.out _ K1.out).mono ?_;rintro e w3 ⟨G,F,Z,rfl,gf,j3,z3,C⟩;have l:=h_ gf;have K3:=h_ (K1.out.trans C);have J3:=h_ j3;have Z3:=h_ (show ∀ g,Z g->w.heap.size<=g from fun g D=>Nat.le_trans K1.out.size (z3 g D));clear gf j3 z3 C HM aB;go_wp2_with fail;have hd:=cx w3 (.cells #[.slice none 0 0,.slice none 0 0] 101);have kd:=dR w3 (.cells #[.slice none 0 0,.slice none 0 0] 101);obtain⟨I,aL⟩:∃ I,I=w3.heap.size:=⟨_,rfl⟩;rw[<- aL]at hd |-
   have d:=h_ (show Qw w (w3.alloc (.cells #[.slice none 0 0,.slice none 0 0] 101)) G F I (L.take 0) from by
    refine⟨[],wT.q0,Z,fun g=>g=I,wT.D0,[],fun _=>0,100000,J3.out.cL (pZ G F l.out) kd,wT.XI,wT.Vt _,NT hd,Fo.NY.nil,fun g D e=>?_,Z3.out,fun g e=>?_,K3.out.trans kd,Int.le_of_eq rfl,?_,fun x N=>absurd N (List.not_mem_nil),H4.out⟩
    . have:=J3.out.lt g D;have e:g=I:=e;omega
    . have e:g=I:=e;have:=K3.out.size;omega
    . exact Int.le_of_eq wT.QS.1)
   have bO:=h_ aL;clear hd kd aL J3 Z3;generalize w3.alloc (.cells #[.slice none 0 0,.slice none 0 0] 101)=W at d |-
   go_loopw [39] (fun iv wr=>∃ i:Nat,iv=I_ i/\i<=L.length/\Qw w wr G F I (L.take i)) (fun iv _=>L.length-(intOf iv).toNat)
   case atStart=>exact⟨0,rfl,Nat.zero_le _,d.out⟩
   case round =>
    obtain⟨i,rfl,hi,j,q,Z,T,b3,S,τ,b5,he⟩:=hrel;have d:=h_ he;clear he;by_cases af:i<L.length
    . obtain⟨ag,ao,rfl,x0,x1,x2,x3,x4,x5⟩:=(a0.out.cL d.out.k) i af
      have N:=a5.out _ (List.getElem_mem af);have bf:=h_ (List.take_succ_eq_append_getElem af);have bz:(L.take i).length=i:=by rw[List.length_take];omega
      have aq:=h_ bz;generalize L[i]=x at x0 x1 x2 x3 x4 x5 N bf;have b9:(0:Int)<=(i:Int):=by omega
      have ce:(i:Int)<(L.length:Int):=by omega
      have cw:wrap64 ((i:Int)+1)=(i:Int)+1:=IntWalk.wrap64_in _ (by omega);clear bz;go_upto_region 10 with fail;have ax:=cx wr (.cells #[.int .u8 (x.kind:Int),.int .u8 (x.p:Int),.int .u8 (x.c:Int),.int .u8 (x.cZ:Int),.int .u16 (x.n:Int),.bool x.lP] 103);have kx:=dR wr (.cells #[.int .u8 (x.kind:Int),.int .u8 (x.p:Int),.int .u8 (x.c:Int),.int .u8 (x.cZ:Int),.int .u16 (x.n:Int),.bool x.lP] 103);obtain⟨f,bt⟩:∃ f,f=wr.heap.size:=⟨_,rfl⟩;rw[<- bt]at ax |-;have aa:¬ T f:=fun e=>by have:=d.out.NR.lt f e;omega
      have ab:¬ Z f:=fun e=>by have:=d.out.rj.lt f e;omega
      generalize wr.alloc (.cells #[.int .u8 (x.kind:Int),.int .u8 (x.p:Int),.int .u8 (x.c:Int),.int .u8 (x.cZ:Int),.int .u16 (x.n:Int),.bool x.lP] 103)=W1 at ax kx |-;have kd:=fw W1;have E1:=h_ (d.out.cL l.out (kx.trans kd));have HB:=h_ (Qy l.out E1.out x N (by rw[aq.out];omega));have ac:=kd.heap ax id;have M:=cp (i:=0) ac rfl;have d1:=cp (i:=1) ac rfl;have d2:=cp (i:=2) ac rfl;have d3:=cp (i:=3) ac rfl;have d4:=cp (i:=4) ac rfl;have d5:=cp (i:=5) ac rfl;have df:=E1.out.rj.f0
      have az:=h_ fun V (k:cq T W1.drew V)=>(show C_ V F.fb 0=some (cD G.ob)/\C_ V f 0=some (.int .u8 (x.kind:Int))/\C_ V f 1=some (.int .u8 (x.p:Int))/\C_ V f 2=some (.int .u8 (x.c:Int))/\C_ V f 3=some (.int .u8 (x.cZ:Int))/\C_ V f 4=some (.int .u16 (x.n:Int))/\C_ V f 5=some (.bool x.lP) from
       ⟨k.cell df (fun e=>E1.out.zt _ (E1.out.rj.fz) e),k.cell M aa,k.cell d1 aa,k.cell d2 aa,k.cell d3 aa,k.cell d4 aa,k.cell d5 aa⟩)
      have aV:=h_ fun V U (k:cq T W1.drew V) (C:cq Z V U) (e3:Qw w U G F I (L.take i++[x]))=>(show C_ U F.fb 0=some (cD G.ob)/\C_ U f 0=some (.int .u8 (x.kind:Int))/\C_ U f 1=some (.int .u8 (x.p:Int))/\C_ U f 2=some (.int .u8 (x.c:Int))/\C_ U f 3=some (.int .u8 (x.cZ:Int))/\C_ U f 4=some (.int .u16 (x.n:Int))/\C_ U f 5=some (.bool x.lP) from by
       obtain⟨_,q2,Z2,_,_,_,_,_,h⟩:=e3;obtain⟨_,u,y,z,A,c4,c5⟩:=az.out V k
       exact⟨h.rj.f0,C.cell u ab,C.cell y ab,C.cell z ab,C.cell A ab,C.cell c4 ab,C.cell c5 ab⟩)
      clear ax bt kx kd ac aa ab x0 x1 x2 x3 x4 x5 N bB bw hf
      go_region_held3 (fun V=>C_ V F.fb 0=some (cD G.ob)/\C_ V f 0=some (.int .u8 (x.kind:Int))/\C_ V f 1=some (.int .u8 (x.p:Int))/\C_ V f 2=some (.int .u8 (x.c:Int))/\C_ V f 3=some (.int .u8 (x.cZ:Int))/\C_ V f 4=some (.int .u16 (x.n:Int))/\C_ V f 5=some (.bool x.lP))
       (first | exact⟨df,M,d1,d2,d3,d4,d5⟩ | exact aV.out _ _ k2 C e3 | exact az.out _ k2)
       (first
         | (go_at_call 17;refine(ht _ (cq.refl _ _)).mono ?_;rintro e w3 ⟨rfl,e3,C⟩)
         | (go_at_call 48;refine HB.out.mono ?_;rintro e w2 ⟨t,rfl,k2,ht⟩))
      have E3:=h_ e3;clear az aV HB E1 k2 C e3 ht df M d1 d2 d3 d4 d5;go_wp2;go_roundw;case rel=>exact⟨i+1,by rw[cw];rfl,af,by rw[bf.out];exact E3.out⟩
      case measure=>exact Up af cw
    . have he:i=L.length:=by omega
      subst he;rw[List.take_length]at d;obtain⟨bj,ta,bK,ca,cb,ht,_,_,_,_⟩:=d.out.NR;have t0:C_ wr I 0=some (.slice ta j.length ca):=cp ht.head rfl;have t1:C_ wr I 1=some (.slice bK L.length cb):=cp ht.head rfl;have ar:=h_ ht;have aq:=h_ d.out.tok.len;clear ht an bO af hi;by_cases h0:j.length=0
      . have cf:((j.length:Int) == 0)=true:=by rw[h0];rfl
        go_wp2;go_ret;exact⟨rfl,d.out.k⟩
      . have b6:((j.length:Int) == 0)=false:=beq_eq_false_iff_ne.2 (by omega)
        have b7:(0:Int)<(j.length:Int):=by omega
        obtain⟨k,hk⟩:∃ k,k=wh % j.length:=⟨_,rfl⟩;have aJ:k<j.length:=by rw[hk];exact Nat.mod_lt _ (by omega)
        have cj:(0:Int)<=(wh:Int)/\(wh:Int)<256:=by omega
        have b8:(wh:Int) % (j.length:Int)=(k:Int):=by rw[hk];exact(Int.natCast_emod _ _).symm
        have bo:j.length<=40:=Nat.le_trans aq.out hf;have bV:k<=40:=Nat.le_of_lt (Nat.lt_of_lt_of_le aJ bo);obtain⟨s,hs⟩:∃ s,s=se % 5:=⟨_,rfl⟩;have cg:s<=4:=by omega
        have ci:(se:Int) % 5=(s:Int):=by omega
        have ch:(0:Int)<=(se:Int)/\(se:Int)<256:=by omega
        have am:=h_ fun V=>pG k (by omega) V;have a8:=h_ fun V=>nY s (by omega) V;have ck:wrap64 ((s:Int)+1)=(s:Int)+1:=IntWalk.wrap64_in _ (by omega);have ap:=h_ fun V (E:K_ wr V)=>ra bj V ta _ ca j (k:Int) ((s:Int)+1) (ar.out.j7.ct E (fun _ _=>id)) d.out.tok.ok (by omega) (by omega) (by omega) (fun x N=>Nat.le_trans (d.out.tok.S6 x N) (by omega))
        have aC:=h_ fun V (E:K_ wr V)=>IH bj L j ta bK ca cb (s:Int) (by omega) d.out.tok.ok (by omega) (fun x N=>Nat.le_trans (d.out.tok.S6 x N) (by omega)) d.out.nn (fun i hi p hp=>by
         rw[Ref.get_at j i hi]at hp
         exact(d.out.tok.own _ (List.getElem_mem hi) p hp).2.2) j.length (by omega) (k:Int) V (by omega) (by omega) (by omega) (ar.out.j7.ct E (fun _ _=>id)) (fp.ct ar.out.dM E (fun _ _=>id))
        have ai:=h_ (Fo.IZ d.out.rel d.out.nn d.out.st k s aJ (by omega) (by omega) (by have:=d.out.fu;omega) (by have:=d.out.hr;omega));have bv:(Fo.pj s).s1=(s:Int)+1:=by
         show(((s % 5:Nat):Int))+1=(s:Int)+1;rw[Nat.mod_eq_of_lt (by omega)]
        rw[bv]at ai;have RD:=h_ (⟨d.out.rj,d.out.z0,d.out.k⟩:wz w wr G F q Z);obtain⟨vx,vy,bC⟩:=EB (Ref.dH j (k:Int) ((s:Int)+1));rw[bC]at ap;generalize (Ref.dH j (k:Int) ((s:Int)+1)).isSome=kn at ap ai;generalize Fo.val L j j.length (k:Int) ((s:Int)+1)=Y at aC ai
        have aD:=h_ (show [58,32,101,97,114,108,121,32,111]++Fo.eS k++[32,58,58,32]++Fo.eS k++[32]++([109]++Fo.dg s)++[32,59]=Fo.oe k s from by
         unfold Fo.oe Fo.iA Fo.gi Fo.dz
         simp only[List.append_assoc,List.cons_append,List.nil_append])
        have aE:=h_ (show [58,32,108,97,116,101,32,111]++Fo.eS k++[32,45,62,32]++([109]++Fo.dg s)++[32,59]=Fo.rP k s from by
         unfold Fo.rP Fo.jy Fo.gi Fo.dz
         simp only[List.append_assoc,List.cons_append,List.nil_append])
        have bW:(Fo.eS k).length<=6:=by
         have:=(Fo.jw k (by omega)).2;show(Fo.dg k).length+1<=6;omega
        have bT:=(Fo.jw s (by omega)).2;clear hk hs bv bC d a5 a0 aq ar bB bw;have cc:(k:Int)<(j.length:Int):=by omega
        generalize j.length=n at *;generalize Fo.eS k=o at *;generalize Fo.dg s=SN at *;clear aJ bV bo h0;go_wp2_with fail;refine(a8.out _).mono ?_;rintro e v1 ⟨rfl,m1⟩;have M1:=h_ m1;have bI:=m1.cell t0 id;have bJ:=m1.cell t1 id;clear m1 t0 t1;go_wp2_with fail;refine(ap.out _ M1.out).mono ?_;rintro e v2 ⟨rfl,m2⟩;have M2:=h_ (M1.out.trans m2);have t0:=m2.cell bI id;have t1:=m2.cell bJ id;clear m2 bI bJ ap a8;go_wp2_with fail;refine(aC.out _ M2.out).mono ?_;rintro e v3 ⟨vn,rfl,bA,m3⟩;have M3:=h_ (M2.out.trans m3);have bg:=h_ bA;have R3:=h_ (RD.out.cL l.out M3.out);clear m3 t0 t1 aC bA RD;obtain⟨qa,qb,qc,aK,aj,ak,P,Q,ad,R⟩:=ai.out;obtain⟨ec,aI⟩:∃ ec:Int,ec=if kn=true then 0 else -2049:=⟨_,rfl⟩;rw[<- aI]at aK;have aY:=h_ aI;clear aI
        have bb:=h_ fun V (E:K_ v3 V)=>(show Calls prog 17 #[cD G.ob,.string (⟨#[58,32,101,97,114,108,121,32,111]⟩++⟨o.toArray⟩++⟨#[32,58,58,32]⟩++⟨o.toArray⟩++⟨#[32]⟩++(⟨#[109]⟩++⟨SN.toArray⟩)++⟨#[32,59]⟩)] V (pN w G F Z (qa,ec) V) from by
         have B:=(R3.out.cL l.out E).dJ l.out _ (by rw[<- aD.out];simp only[List.length_append,List.length_cons,List.length_nil];omega) _ aK;rw[<- aD.out]at B;simp only[S_,<- pd]at B
         exact B)
        have a2:=h_ (And.intro aj (And.intro ak (And.intro P (And.intro Q (And.intro ad R)))));clear aK aj ak P Q ad R ai aD;have l1:¬ 9223372036854775807<9+o.length:=by omega
        have l2:¬ 9223372036854775807<9+o.length+4:=by omega
        have l3:¬ 9223372036854775807<9+o.length+4+o.length:=by omega
        have l4:¬ 9223372036854775807<9+o.length+4+o.length+1:=by omega
        have l5:¬ 9223372036854775807<9+o.length+4+o.length+1+(1+SN.length):=by omega
        have l6:¬ 9223372036854775807<9+o.length+4+o.length+1+(1+SN.length)+2:=by omega
        have O:=h_ fun V (E:K_ v3 V)=>(R3.out.cL l.out E).cells.1;have ae:=fw v3;have M:=O.out _ ae;go_upto_region 19 with fail
        go_region_held3 (fun V=>C_ V F.fb 0=some (cD G.ob))
         (first | exact M | exact r4.cells.1 | exact O.out _ aN | exact O.out _ X)
         (first
           | (go_at_call 17;refine(bb.out _ aN).mono ?_;rintro e v4 ⟨rfl,Z4,r4,bQ⟩)
           | (go_at_call 52;have kk:=X;refine(am.out _).mono ?_;rintro e u2 ⟨rfl,k2⟩;have aN:=X.trans k2)
           | (go_at_call 52;refine(am.out _).mono ?_;rintro e u1 ⟨rfl,k1⟩;have X:=ae.trans k1))
        have R4:=h_ r4;clear bb O M ae X aN k1 k2 r4 bQ R3 M1 M2 l1 l2 l3 l4 l5 l6;go_upto_region 20 with fail
        go_cut [112] (fun bY wx=>bY=.bool false/\v4=wx)
        case first =>
         cases kn with
         | true =>
          obtain rfl:ec=0:=aY.out;go_wp2;go_meet;exact⟨rfl,rfl⟩
         | false =>
          obtain rfl:ec = -2049:=aY.out;go_wp2;go_meet;exact⟨rfl,rfl⟩
        case rest =>
         obtain⟨rfl,rfl⟩:=hcut;obtain⟨aj,ak,P,Q,ad,R⟩:=a2.out
         have bc:=h_ fun V (E:K_ v4 V)=>(show Calls prog 17 #[cD G.ob,.string (⟨#[58,32,108,97,116,101,32,111]⟩++⟨o.toArray⟩++⟨#[32,45,62,32]⟩++(⟨#[109]⟩++⟨SN.toArray⟩)++⟨#[32,59]⟩)] V (pN w G F Z4 (qb,0) V) from by
          have B:=(R4.out.cL l.out E).dJ l.out _ (by rw[<- aE.out];simp only[List.length_append,List.length_cons,List.length_nil];omega) _ aj;rw[<- aE.out]at B;simp only[S_,<- pd]at B
          exact B)
         have bd:=h_ fun V Z' (h:wz w V G F qb Z')=>(show Calls prog 17 #[cD G.ob,.string ⟨#[51,32,39,32,108,97,116,101,32,99,97,116,99,104]⟩] V (pN w G F Z' (qc,0) V) from h.dJ l.out (Fo.runT Fo.jy) (by decide) _ ak);have a3:=h_ (And.intro P (And.intro Q (And.intro ad R)));clear aj ak P Q ad R a2 aE;have l1:¬ 9223372036854775807<8+o.length:=by omega
         have l2:¬ 9223372036854775807<8+o.length+4:=by omega
         have l3:¬ 9223372036854775807<8+o.length+4+(1+SN.length):=by omega
         have l4:¬ 9223372036854775807<8+o.length+4+(1+SN.length)+2:=by omega
         have O:=h_ fun V (E:K_ v4 V)=>(R4.out.cL l.out E).cells.1;have ae:=fw v4;have M:=O.out _ ae;go_upto_region 22 with fail
         go_region_held3 (fun V=>C_ V F.fb 0=some (cD G.ob))
          (first | exact M | exact r6.cells.1 | exact r5.cells.1 | exact O.out _ X)
          (first
            | (go_at_call 17;have kk:=r5;refine(bd.out _ _ kk).mono ?_;rintro e J ⟨rfl,Z6,r6,bS⟩;dsimp only)
            | (go_at_call 17;refine(bc.out _ X).mono ?_;rintro e v5 ⟨rfl,Z5,r5,bR⟩;dsimp only)
            | (go_at_call 52;refine(am.out _).mono ?_;rintro e u1 ⟨rfl,k1⟩;have X:=ae.trans k1))
         have R6:=h_ r6;clear bc bd O M ae X k1 r5 r6 bR bS R4 l1 l2 l3 l4 am bW bT;have bx:∀ g,Z6 g->g<J.heap.size:=R6.out.rj.lt;have ba:=h_ bx;clear bx
         go_upto_if 135 with (fail)
         go_cut [21] (fun bZ wx=>∃ cd:Int,bZ=I_ cd/\(Y=none->cd = -2049)/\J=wx)
         case first =>
          cases Y with
          | none =>
           go_wp2;go_meet;exact⟨-2049,rfl,fun _=>rfl,rfl⟩
          | some m =>
           go_wp2;go_meet;exact⟨0,rfl,(fun e=>by cases e),rfl⟩
         case rest =>
          obtain⟨cd,rfl,bp,rfl⟩:=hcut;have aW:=h_ bp;clear bp;have bq:=cx J (.cells #[I_ 3,I_ vn,I_ 0] 2);have bE:=dR J (.cells #[I_ 3,I_ vn,I_ 0] 2);have br:=cx (J.alloc (.cells #[I_ 3,I_ vn,I_ 0] 2)) (.cells #[I_ 3,I_ cd] 2);have bF:=dR (J.alloc (.cells #[I_ 3,I_ vn,I_ 0] 2)) (.cells #[I_ 3,I_ cd] 2);have ah:=h_ (And.intro bq bE);have al:=h_ (And.intro br bF);clear bq bE br bF
          go_upto_if 139 with (fail)
          go_cut [22] (fun b0 wx=>∃ w8,w8=wx/\∃ H,b0=.slice (some ⟨H,0,none⟩) (Fo.told Y).length (Fo.told Y).length/\iI w8 (some ⟨H,0,none⟩) (Fo.told Y)/\K_ J w8/\J.heap.size<=H/\H<w8.heap.size)
          case first =>
           cases Y with
           | none =>
            obtain rfl:cd = -2049:=aW.out rfl;go_wp2;go_meet;exact⟨_,rfl,J.heap.size+1,rfl,Gh (by have h:=al.out.1;rw[World.size_alloc]at h;exact h),ah.out.2.trans al.out.2,Nat.le_succ _,by have h:=cA al.out.1;rw[World.size_alloc]at h;exact h⟩
           | some m =>
            obtain rfl:vn=m:=bg.out m rfl;go_wp2;go_meet;exact⟨_,rfl,J.heap.size,rfl,Gh ah.out.1,ah.out.2,Nat.le_refl _,cA ah.out.1⟩
          case rest =>
           obtain⟨w8,rfl,H,rfl,bm,k8,bU,bs⟩:=hcut;have R8:=h_ (R6.out.cL l.out k8);have A8:=h_ bm;have aZ:=h_ (fun e=>by have:=ba.out H e;omega:¬ Z6 H);have bN:=h_ bs;have bu:=NU Y;obtain⟨P,Q,ad,R⟩:=a3.out;generalize Fo.told Y=RT at *;have aT:=h_ (R8.out.all RT P);have aA:=h_ fun V sa sc (B:iI V sa RT) (h2:iI V (some ⟨H,0,none⟩) RT)=>Pf V sa (some ⟨H,0,none⟩) sc RT.length RT bu B h2
           have a6:=h_ fun V (h:wz w V G F qc Z6)=>(show Calls prog 18 #[cD G.K.rb] V fun e w'=>e=.returned (I_ 0)/\V=w' from by
            have B:=mW V G.K.rb G.K.b qc.1.v.r h.fv.vm.rk;rw[Q]at B
            exact B)
           have a1:=h_ R;clear a3 P Q ad R k8 bm R6 ah al aW bg ba bU bs bu;obtain⟨u,y,z,A⟩:=R8.out.cells;go_wp2_with fail;refine aT.out.mono ?_;rintro e w9 ⟨sa,sc,rfl,a9,k9⟩;have R9:=h_ (R8.out.cL l.out k9);have A9:=h_ (A8.out.cL k9 (fun _ _=>id));have B9:=h_ a9;have bi:=h_ k9;clear a9 k9 aT R8 A8 u y z A;obtain⟨u,y,z,A⟩:=R9.out.cells;go_wp2_with fail;refine(aA.out w9 sa sc B9.out A9.out).mono ?_;rintro e bL ⟨rfl,ay⟩;have au:=h_ (R9.out.cL l.out ay);have aO:=h_ (A9.out.cL ay (fun _ _=>id));have bh:=h_ (bi.out.trans ay);clear ay R9 A9 B9 u y z A;obtain⟨u,y,z,A⟩:=au.out.cells;go_wp2_with fail;refine(a6.out bL au.out).mono ?_;rintro e cl ⟨rfl,rfl⟩;have aX:=h_ au.out.drop;clear a6;go_wp2_with fail;refine aX.out.mono ?_;rintro e bM ⟨rfl,bk,bG,aH⟩;dsimp only;generalize (qc.1.v.fE 0).2=dc;have av:=h_ bG;have bX:w8.heap.size<=bL.heap.size:=bh.out.size;have a4:=h_ (fun e=>(aH.n H e).elim aZ.out fun e=>by have:=bN.out;omega:¬ bk H);have aP:=h_ (aO.out.cL aH.k (fun g D e=>aZ.out (by cases D;exact e)));clear bG aH au aO aX u y z A bX bi bh;cases kn with
           | false =>
            go_wp2;go_ret;exact⟨rfl,av.out.k⟩
           | true =>
            obtain⟨q5,t5,u5,y5⟩:=a1.out rfl;have be:=h_ (show Calls prog 17 #[cD G.ob,.string ⟨#[51,32,39,32,101,97,114,108,121,32,99,97,116,99,104]⟩] bM (pN w G F bk (q5,0) bM) from av.out.dJ l.out (Fo.runT Fo.iA) (by decide) _ t5);have aU:=h_ fun V Z' (h:wz w V G F q5 Z')=>h.all RT u5
            have a7:=h_ fun V Z' (h:wz w V G F q5 Z')=>(show Calls prog 18 #[cD G.K.rb] V fun e w'=>e=.returned (I_ 0)/\V=w' from by
             have B:=mW V G.K.rb G.K.b q5.1.v.r h.fv.vm.rk;rw[y5]at B
             exact B)
            clear t5 u5 y5 a1;obtain⟨u,y,z,A⟩:=av.out.cells;go_wp2_with fail;refine be.out.mono ?_;rintro e cm ⟨rfl,b4,bH,bn⟩;have aw:=h_ bH;have aQ:=h_ (aP.out.cL bn.k (fun g D e=>a4.out (by cases D;exact e)));clear bH bn u y z A be aP av a4;obtain⟨u,y,z,A⟩:=aw.out.cells;go_wp2_with fail;refine(aU.out _ _ aw.out).mono ?_;rintro e b1 ⟨sb,sd,rfl,bl,aM⟩;have aF:=h_ (aw.out.cL l.out aM);have aR:=h_ (aQ.out.cL aM (fun _ _=>id));have aS:=h_ bl;clear bl aM aU aw aQ u y z A;obtain⟨u,y,z,A⟩:=aF.out.cells;go_wp2_with fail;refine(aA.out b1 sb sd aS.out aR.out).mono ?_;rintro e b2 ⟨rfl,bD⟩;have aG:=h_ (aF.out.cL l.out bD);clear bD aF aR aS u y z A aA;obtain⟨u,y,z,A⟩:=aG.out.cells;go_wp2_with fail;refine(a7.out b2 _ aG.out).mono ?_;rintro e cn ⟨rfl,rfl⟩;clear a7 u y z A;go_wp2;go_ret;exact⟨rfl,aG.out.k⟩
 . have bP:decide ((L.length:Int)<=40)=false:=decide_eq_false (by omega)
   go_enter func6,ntmps6;go_wp2_with fail;refine VB (an.out w (cq.refl _ _)) ?_;intro w1 K1;go_wp2_with fail;refine(aB.out w1).mono ?_;rintro e w2 ⟨rfl,rfl⟩;go_wp2_with fail;refine(an.out _ K1.out).mono ?_;rintro e w3 ⟨rfl,C⟩;have K3:=h_ (K1.out.trans C);clear C;go_wp2;go_ret;exact⟨rfl,K3.out⟩
end Go.Proofs.dS
