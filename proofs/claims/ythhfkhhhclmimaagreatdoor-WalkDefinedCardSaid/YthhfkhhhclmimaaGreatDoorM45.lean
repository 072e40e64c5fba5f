/- A part of WalkG. No condition. -/
import Derived.Test.YthhfkhhhclmimaaGreatDoorM44
import Derived.Test.YthhfkhhhclmimaaGreatDoorM43
set_option linter.unusedVariables false
set_option linter.unusedSimpArgs false
open Go.Proofs.Tryz
set_option maxRecDepth 10000
set_option maxHeartbeats 4000000
namespace Go.Proofs.dS
open Go Go.RowKit Go.Proofs.K Go.Proofs.tI
def Gl(w:World)(X:Nat->Prop):Prop:=xM w/\∀ g,g<4->¬ X g
theorem Gl.uc{w w':World}{X a:Nat->Prop}(h:Gl w X)(E:ef w X w' a):Gl w' a :=
 ⟨h.1.ct E.k h.2,fun g b e=>(E.n g e).elim (h.2 g b) (fun e=>by have:=h.1.lt;omega)⟩
section
variable (G:Gk) (X:Nat->Prop) (w:World) (r:Rd)
theorem P'(h:ej w G X r):∃ q,w.cell? ⟨G.ob,1,none⟩=some (cD q)/\Calls prog 87 #[cD q] w (Sr G X w r.skip):=by
 obtain⟨q,c,e,f,d⟩:=h.cT;exact⟨q,c,(Mg w q r.src r.cM e).mono fun _ _ ⟨b,a,k⟩=>⟨b,X,d _ _ a k,ej.TX f k⟩⟩
theorem MP(h:ej w G X r):Calls prog 147 #[cD G.K.s] w (PR G X w (r.vm (r.v.fB r.v.x.align))) :=
 (MK G.K w r.v h.fv).mono fun _ _ ⟨a,b,k⟩=>⟨a,X,h.vm b k,h.uc k⟩
end
theorem Sv(G:Gk)(X:Nat->Prop)(w:World)(r:Rd)(t:List UInt8)(b:t.length<=4611686018427387904)(h:ej w G X r):Calls prog 86 #[cD G.K.mb,S_ t] w (Sr G X w (r.pR t)) :=
 (L3 G.K w r.v t h.fv b).mono fun _ _ ⟨a,c,k⟩=>⟨a,X,h.vm c k,h.uc k⟩
structure RJ{α:Type}(RE:World->(Nat->Prop)->α->Prop)(G:Gk)(w:World)(Z:Nat->Prop)(q:Rd × α):Prop where
 parts:∃ X Y,ej w G X q.1/\RE w Y q.2/\(∀ g,X g->¬ Y g)/\(∀ g,X g\/Y g->Z g)
 lt:∀ g,Z g->g<w.heap.size
 gl:Gl w Z
def PJ{α:Type}(RE:World->(Nat->Prop)->α->Prop)(G:Gk)(Z:Nat->Prop)(w:World)(q:(Rd × α) × Int)(e:Ending)(w':World):Prop:=e=.returned (I_ q.2)/\∃ Z',RJ RE G w' Z' q.1/\ef w Z w' Z'
def Qa{α:Type}(RE:World->(Nat->Prop)->α->Prop)(G:Gk)(Z:Nat->Prop)(w:World)(q:Rd × α)(e:Ending)(w':World):Prop:=e=.returned (.tuple #[])/\∃ Z',RJ RE G w' Z' q/\ef w Z w' Z'
structure tC{α:Type}(E:Mm α)(RE:World->(Nat->Prop)->α->Prop)(G:Gk):Prop where
 ct:∀ {w w':World} {S Y:Nat->Prop} {x:α},RE w Y x->cq S w w'->(∀ g,Y g->¬ S g)->RE w' Y x
 lt:∀ {w:World} {Y:Nat->Prop} {x:α},RE w Y x->∀ g,Y g->g<w.heap.size
 no:∀ low,E.has low=false->G.fm low=none
 yes:∀ low,E.has low=true->∃ k cap,G.fm low=some (.func (.func k) #[] cap)/\Enters k/\∀ w Z q,E.iE q.1->RJ RE G w Z q->Calls Tryz.prog k (#[cD G.ob]++cap) w (PJ RE G Z w (E.dA low q))
theorem RJ.of{i:Type}{E:Mm i}{f:World->(Nat->Prop)->i->Prop}{G:Gk}(r:tC E f G){w w':World}{Z X Y b:Nat->Prop}{q:Rd × i}{r':Rd}(p:RJ f G w Z q)(v:ej w G X q.1)(o:f w Y q.2)(d:∀ g,X g->¬ Y g)(s:∀ g,X g\/Y g->Z g)(m:ej w' G b r')(c:ef w X w' b) :
 ∃ j,RJ f G w' j (r',q.2)/\ef w Z w' j:=by
 have e:ef w Z w' (fun g=>Z g\/b g):=⟨c.k.mono (fun g _ h=>s g (.inl h)),fun g a=>a.elim .inl (fun h=>(c.n g h).imp (fun h=>s g (.inl h)) id)⟩;have u:=r.lt o;refine⟨fun g=>Z g\/b g,⟨⟨b,Y,m,r.ct o c.k (fun g a h=>d g h a),fun g t l=>(c.n g t).elim (fun h=>d g h l) (fun h=>by have:=u g l;omega),fun g a=>a.elim .inr (fun h=>.inl (s g (.inr h)))⟩,?_,p.gl.uc e⟩,e⟩;rintro g (a | a)
 . exact Nat.lt_of_lt_of_le (p.lt g a) c.k.size
 . exact m.elim fun _ h=>h.2.2 g a
theorem ej.Sw{G:Gk}{X:Nat->Prop}{w:World}{r:Rd}(h:ej w G X r):cX sk w G.mm G.nm G.fm:=h.elim fun _ h=>h.1.mm
theorem rO(w:World):(zeroValue 73).run prog w=.ok .nilFunc w:=by kernel_rfl
section
variable {α:Type} {E:Mm α} {RE:World->(Nat->Prop)->α->Prop} {G:Gk}
theorem RJ.cL{w w':World}{Z:Nat->Prop}{q:Rd × α}(l:tC E RE G)(h:RJ RE G w Z q)(k:K_ w w'):RJ RE G w' Z q:=by
 obtain⟨⟨X,Y,a,b,c,d⟩,f,i⟩:=h;exact⟨⟨X,Y,a.cL k,l.ct b k (fun _ _ e=>e),c,d⟩,fun g j=>Nat.lt_of_lt_of_le (f g j) k.size,i.uc (ef.kt k)⟩
theorem sL(s:List UInt8):(cG s).length=s.length:=by unfold cG;simp
end
theorem yb(G:Gk)(X:Nat->Prop)(w:World)(r:Rd)(h:ej w G X r):Calls prog 53 #[cD G.K.db,I_ 0] w (PR G X w (r.vm (r.v.fE 0))) :=
 (LZ G.K w r.v 0 h.fv).mono fun _ _ ⟨a,b,k⟩=>⟨a,X,h.vm b k,h.uc k⟩
theorem IM(G:Gk)(X:Nat->Prop)(w:World)(r:Rd)(h:ej w G X r):Calls prog 53 #[cD G.K.rb,I_ 0] w (PR G X w (r.vm (r.v.dw 0))) :=
 (L0 G.K w r.v 0 h.fv).mono fun _ _ ⟨a,b,k⟩=>⟨a,X,h.vm b k,h.uc k⟩
theorem IN(n:Int)(h:jD n):(Lib.itoa n).length<=20:=TI.Mh n h.1 h.2
theorem MQ(w:World):(binOp BinOp.neq 1 Value.nilFunc Value.nilFunc).run prog w=.ok (.bool false) w:=by rfl
theorem MR(w:World)(k:Nat)(b a:Array Value):(binOp BinOp.neq 1 (Value.func (.func k) b a) Value.nilFunc).run prog w=.ok (.bool true) w:=by rfl
def F5{α:Type}(E:Mm α)(RE:World->(Nat->Prop)->α->Prop)(G:Gk):Prop :=
 (G.reset=.nilFunc/\∀ q,E.reset q=q)\/∃ k first cap,G.reset=.func (.func k) first cap/\Enters k/\∀ w Z q,RJ RE G w Z q->Calls Tryz.prog k (first++cap) w (Qa RE G Z w (E.reset q))
theorem Qb{b:Type}{E:Mm b}{a:World->(Nat->Prop)->b->Prop}{G:Gk}(o:tC E a G)(w:World)(Z:Nat->Prop)(q:Rd × b)(d:RJ a G w Z q) :
 ∃ g,w.cell? ⟨G.ob,1,none⟩=some (cD g)/\Calls prog 87 #[cD g] w (Qa a G Z w (q.1.skip,q.2)):=by
 obtain⟨X,Y,c,h,i,j⟩:=d.parts;obtain⟨g,m,k⟩:=P' G X w q.1 c;exact⟨g,m,k.mono fun e w' ⟨l,p,n,f⟩=>⟨l,RJ.of o d c h i j n f⟩⟩
theorem Qc{α:Type}{E:Mm α}{RE:World->(Nat->Prop)->α->Prop}{G:Gk}(ok:tC E RE G)(rs:F5 E RE G)(w:World)(Z:Nat->Prop)(q:Rd × α)(e:Int)(hx:jD e)(hz:RJ RE G w Z q) :
 Calls Tryz.prog 34 #[.pointer (some ⟨G.ob,0,none⟩),.int .i64 e] w (Qa RE G Z w (E.fail q e)):=by
 obtain⟨r,x⟩:=q;obtain⟨X,Y,h1,h2,h3,h4⟩:=hz.parts;have hgl:Gl w X:=⟨hz.gl.1,fun g hg e=>hz.gl.2 g hg (h4 g (.inl e))⟩;have HJ:=h_ fun (w':World) (X':Nat->Prop) (r':Rd) (hr:ej w' G X' r') (ev:ef w X w' X')=>RJ.of ok hz h1 h2 h3 h4 hr ev;have QP:=h_ fun V Z' (q:Rd × α) (hV:RJ RE G V Z' q)=>Qb ok V Z' q hV;have hfl:E.fail (r,x) e=((E.reset (r.lM e,x)).1.skip,(E.reset (r.lM e,x)).2):=rfl;have Wp:r.lM e={ (if r.is then { ({ r with v:=Rd.eK r.v e }:Rd).nU r.cu r.v.cF r.cF with ea:=Wd.none } else { r with v:=Rd.eK r.v e }).oB with comp:=false,eM:=false,dy:=[] }:=rfl;have RS:=h_ rs;have OK:=h_ ok;generalize E.fail (r,x) e=Q at hfl |-;have HQ:=h_ hfl;clear hz h2 h3 h4 ok rs hfl;have Vp:=h_ Wp;clear Wp;have HF:=h_ fun V (hV:xM V)=>Bq e hx.1 hx.2 V hV;have hlen:=IN e hx;have hst:Value.string (⟨#[63]⟩++⟨(Lib.itoa e).toArray⟩++⟨#[10]⟩)=.string ⟨(Rd.eW e).toArray⟩:=by
  unfold Rd.eW;congr 1
 have hel:(Rd.eW e).length<=4611686018427387904:=by unfold Rd.eW;simp;omega
 have HP:=h_ fun V Y (hV:ej V G Y r)=>Sv G Y V r (Rd.eW e) hel hV;have HD:=h_ fun V Y (hV:ej V G Y (r.pR (Rd.eW e)))=>yb G Y V _ hV;have TZ:=h_ fun V Y (hV:ej V G Y ((r.pR (Rd.eW e)).vm ((r.pR (Rd.eW e)).v.fE 0)).1)=>IM G Y V _ hV;have hfin:(((r.pR (Rd.eW e)).vm ((r.pR (Rd.eW e)).v.fE 0)).1.vm (((r.pR (Rd.eW e)).vm ((r.pR (Rd.eW e)).v.fE 0)).1.v.dw 0)).1={ r with v:=Rd.eK r.v e }:=rfl;generalize hq2:(((r.pR (Rd.eW e)).vm ((r.pR (Rd.eW e)).v.fE 0)).1.vm (((r.pR (Rd.eW e)).vm ((r.pR (Rd.eW e)).v.fE 0)).1.v.dw 0))=q2 at TZ hfin;clear hq2;obtain⟨r3,e3⟩:=q2;simp only at hfin
 subst hfin;generalize ((r.pR (Rd.eW e)).vm ((r.pR (Rd.eW e)).v.fE 0))=q1 at HD TZ;obtain⟨r2,e2⟩:=q1;simp only at TZ;generalize (r.pR (Rd.eW e))=r1 at HP HD;generalize Rd.eW e=et at HP hst;generalize Lib.itoa e=tt at HF hlen hst;have HST:=h_ hst;have Tz:=h_ hgl;have R0:=h_ h1;have E0:=h_ (ef.refl w X);have o0:=R0.out.o0;have hm1:¬ 9223372036854775807<1+tt.length:=by omega
 have hm2:¬ 9223372036854775807<1+tt.length+1:=by omega
 clear hst hlen hel;go_enter Tryz.func34,Tryz.ntmps34;go_wp2_with fail
 go_region_held3 (fun w'=>w'.cell? ⟨G.ob,0,none⟩=some (.pointer (some ⟨G.K.mb,0,none⟩)))
  (first | go_keep | exact t0)
  (first
    | (go_at_call 67;refine(HF.out w.drew (Tz.out.1.cL (cq.drew _ _))).mono ?_;rintro e' w8 ⟨rfl,k8⟩;dsimp only;have t8:=k8.cell (show w.drew.cell? ⟨G.ob,0,none⟩=_ from o0) id)
    | (go_at_call 86;(first | rw[HST.out] | skip);refine(HP.out w8 X (R0.out.cL ((fw w).trans k8))).mono ?_;rintro e' w1 ⟨rfl,X1,r1',k1⟩;dsimp only;have t0:=r1'.o0))
 have R1:=h_ r1';have E1:=h_ (E0.out.trans ((ef.kt ((fw w).trans k8)).trans k1));clear r1' k1 k8 t0 t8 HF HP h1 hm1 hm2 HST hgl hx;try clear o0
 have o0:=R1.out.o0;have v1:=R1.out.v1;go_wp2_with fail;refine ir (HD.out _ _ R1.out) E1 ?_;intro w2 X2 R2 E2;try clear o0;try clear v1
 have o0:=R2.out.o0;have v2:=R2.out.v2;go_wp2_with fail;refine ir (TZ.out _ _ R2.out) E2 ?_;intro w3 X3 R3 E3;try clear o0;try clear v1;try clear v2
 have Ef:w3.cell? ⟨G.ob,16,none⟩=some (.bool r.is):=R3.out.Ef;clear HD TZ;have wz:=Vp.out;cases hi:r.is with
 | false =>
  rw[hi]at Ef;rw[if_neg (by rw[hi];simp)]at wz;have HU:=h_ wz;clear Vp wz hi;generalize ({ r with v:=Rd.eK r.v e }:Rd)=u at R3 HU;have HK:=h_ (ue G _ _ _ R3.out);go_wp2_with fail;refine ir (HK.out) E3 ?_;intro w4 X4 R4 E4;try clear o0;try clear Ef;try clear v1;try clear v2
  have o4:=R4.out.o4;have o5:=R4.out.o5;obtain⟨a3,c3,o3⟩:=R4.out.o3;have f4:=R4.out.er 4;have f5:=R4.out.er 5;have f3:=R4.out.er 3;have ks:=fU w4 G.ob 4 5 3 (.bool false) (.bool false) (.slice none 0 0);have RM:=h_ (R4.out.rN (r':=r.lM e) ks (fun D hc=>by rw[HU.out];exact cz (cz (cz hc _) _) _) (by rw[HU.out];exact⟨rfl,rfl,rfl,rfl,rfl,rfl⟩) (by rw[HU.out];exact { R4.out.ok with dy:=Nat.zero_le _ }));have EM:=h_ (E4.out.trans (R4.out.pe ks));obtain⟨ZM,jm,em⟩:=HJ.out _ _ _ RM.out EM.out;have JM:=h_ jm;have EZ:=h_ em;have c19:w4.cell? ⟨G.ob,19,none⟩=some G.reset:=R4.out.Wo;have HM:=h_ (show(((w4.setCell ⟨G.ob,4,none⟩ (.bool false)).setCell ⟨G.ob,5,none⟩ (.bool false)).setCell ⟨G.ob,3,none⟩ (.slice none 0 0))=_ from rfl);clear jm em ks RM EM HJ HU HK;rcases RS.out with⟨MS,hid⟩ | ⟨k,first,cap,MS,hent,hcon⟩
  . rw[MS]at c19
    have Vq:=h_ (HQ.out.trans (by rw[hid]));have hnn:=MQ;clear MS hid RS HQ;rw[<- HM.out]at JM;obtain⟨gq,c1,hsk⟩:=QP.out _ _ _ JM.out;have HS:=h_ hsk;clear hsk QP HM;go_wp2_with fail;refine HS.out.mono ?_;rintro e' wF ⟨rfl,ZF,jF,kF⟩;have JF:=h_ jF;have EF:=h_ (EZ.out.trans kF);clear jF kF;go_wp2_with fail;go_end0;rw[Vq.out];exact⟨rfl,_,JF.out,EF.out⟩
  . rw[MS]at c19
    have hnf:=MR;have T0:∀ (args:Array Value) (w:World),(callFunc k args).run Tryz.prog w=.ok (.enter k args) w:=hent;have HC:=h_ (hcon _ _ _ JM.out);clear MS hent hcon RS HM;go_wp2_with fail;refine HC.out.mono ?_;rintro e' wE ⟨rfl,ZE,jE,kE⟩;have JE:=h_ jE;have EE:=h_ (EZ.out.trans kE);obtain⟨gq,c1,hsk⟩:=QP.out _ _ _ JE.out;have HS:=h_ hsk;clear hsk QP jE kE;go_wp2_with fail;refine HS.out.mono ?_;rintro e' wF ⟨rfl,ZF,jF,kF⟩;have JF:=h_ jF;have EF:=h_ (EE.out.trans kF);clear jF kF;go_wp2_with fail;go_end0;rw[HQ.out];exact⟨rfl,_,JF.out,EF.out⟩
 | true =>
  rw[hi]at Ef;rw[if_pos hi]at wz;have Sx:=h_ wz;have hb:({ r with v:=Rd.eK r.v e }:Rd).nU r.cu r.v.cF r.cF=(Rd.setCell (({ r with v:=Rd.eK r.v e }:Rd).vm ((Rd.eK r.v e).fB ((Rd.eK r.v e).x.fN r.cu))).1 r.v.cF r.cF).1:=rfl;rw[hb]at Sx;have Wq:=h_ fun V Y (hV:ej V G Y { r with v:=Rd.eK r.v e })=>P8 G Y V _ r.cu hV;have MG:w3.cell? ⟨G.ob,14,none⟩=some (.int .i64 r.cu):=R3.out.MG;have II:w3.cell? ⟨G.ob,15,none⟩=some (.int .i64 r.cF):=R3.out.II;have hl1:(({ r with v:=Rd.eK r.v e }:Rd).vm ((Rd.eK r.v e).fB ((Rd.eK r.v e).x.fN r.cu))).1.v.cF=r.v.cF:=rfl;have hl2:(({ r with v:=Rd.eK r.v e }:Rd).vm ((Rd.eK r.v e).fB ((Rd.eK r.v e).x.fN r.cu))).1.cF=r.cF:=rfl;generalize ({ r with v:=Rd.eK r.v e }:Rd).vm ((Rd.eK r.v e).fB ((Rd.eK r.v e).x.fN r.cu))=p4 at Sx Wq hl1 hl2;obtain⟨r4,e4⟩:=p4;simp only at Sx hl1 hl2;have Wr:=h_ fun V Y (hV:ej V G Y r4)=>vQ G Y V r4 r.v.cF r.cF hV;generalize r4.setCell r.v.cF r.cF=p5 at Sx Wr;obtain⟨r5,e5⟩:=p5;simp only at Sx;have HL:=h_ (And.intro hl1 hl2);clear Vp wz hi hb hl1 hl2;have o0:=R3.out.o0;have v0:=R3.out.v0;go_wp2_with fail;go_still_tail 12,(by kernel_rfl);try change wpList _ _ _ _ _ w3.drew
  have R4:=h_ (R3.out.cL (fw w3));have E4:=h_ (E3.out.trans (ef.kt (fw w3)));try clear o0;try clear o3;try clear o4;try clear o5;try clear MG;try clear II;try clear Ef;try clear v0;try clear v1;try clear v2
  generalize w3.drew=w4 at R4 E4 |-;go_wp2_with fail;refine ir (Wq.out _ _ R4.out) E4 ?_;intro w5 X5 R5 E5;try clear o0;try clear o3;try clear o4;try clear o5;try clear MG;try clear II;try clear Ef;try clear v0;try clear v1;try clear v2
  have o0:=R5.out.o0;have v0:=R5.out.v0;have vs:=R5.out.vs;have v8:w5.cell? ⟨G.K.mb,8,none⟩=some (.int .i64 r.v.cF):=by rw[R5.out.v8,HL.out.1]
  have II:w5.cell? ⟨G.ob,15,none⟩=some (.int .i64 r.cF):=by rw[R5.out.II,HL.out.2]
  go_wp2_with fail;go_still_tail 22,(by kernel_rfl);try change wpList _ _ _ _ _ w5.drew
  have R6:=h_ (R5.out.cL (fw w5));have E6:=h_ (E5.out.trans (ef.kt (fw w5)));try clear o0;try clear o3;try clear o4;try clear o5;try clear MG;try clear II;try clear Ef;try clear v0;try clear v1;try clear v2;try clear v8;try clear vs
  generalize w5.drew=w6 at R6 E6 |-;go_wp2_with fail;refine ir (Wr.out _ _ R6.out) E6 ?_;intro w7 X7 R7 E7;try clear o0;try clear o3;try clear o4;try clear o5;try clear MG;try clear II;try clear Ef;try clear v0;try clear v1;try clear v2;try clear v8;try clear vs
  have S8:=R7.out.S8;have S9:=R7.out.S9;have H':=R7.out.H';have Ta:=R7.out.Ta;have f10:=R7.out.er 10;have f11:=R7.out.er 11;have f12:=R7.out.er 12;have f13:=R7.out.er 13;have ks:=kQ w7 G.ob 10 11 12 13 (.int .i64 0) (.int .i64 0) (.int .i64 0) (.string ⟨#[]⟩);have R8:=h_ (R7.out.mE (r':={ r5 with ea:=Wd.none }) ks (fun D hc=>cz (cz (cz (cz hc _) _) _) _) ⟨rfl,rfl,rfl,rfl,rfl,rfl⟩ { R7.out.ok with BK:=by show(0:Int)<=0;decide,BL:=by show(0:Int)<=_;decide });have E8:=h_ (E7.out.trans (R7.out.pe ks));have HU:=h_ Sx.out;generalize ({ r5 with ea:=Wd.none }:Rd)=u at R8 HU;have HK:=h_ (ue G _ _ _ R8.out);clear ks Sx;go_wp2_with fail;try clear o0;try clear o3;try clear o4;try clear o5;try clear S8;try clear S9;try clear H';try clear Ta;try clear MG;try clear II;try clear Ef;try clear v0;try clear v1;try clear v2;try clear v8;try clear vs
  refine ir (HK.out) E8 ?_;intro w9 X9 R9 E9;try clear o0;try clear o3;try clear o4;try clear o5;try clear S8;try clear S9;try clear H';try clear Ta;try clear MG;try clear II;try clear Ef;try clear v0;try clear v1;try clear v2;try clear v8;try clear vs
  have o4:=R9.out.o4;have o5:=R9.out.o5;obtain⟨a3,c3,o3⟩:=R9.out.o3;have f4:=R9.out.er 4;have f5:=R9.out.er 5;have f3:=R9.out.er 3;have ks:=fU w9 G.ob 4 5 3 (.bool false) (.bool false) (.slice none 0 0);have RM:=h_ (R9.out.rN (r':=r.lM e) ks (fun D hc=>by rw[HU.out];exact cz (cz (cz hc _) _) _) (by rw[HU.out];exact⟨rfl,rfl,rfl,rfl,rfl,rfl⟩) (by rw[HU.out];exact { R9.out.ok with dy:=Nat.zero_le _ }));have EM:=h_ (E9.out.trans (R9.out.pe ks));obtain⟨ZM,jm,em⟩:=HJ.out _ _ _ RM.out EM.out;have JM:=h_ jm;have EZ:=h_ em;have c19:w9.cell? ⟨G.ob,19,none⟩=some G.reset:=R9.out.Wo;have HM:=h_ (show(((w9.setCell ⟨G.ob,4,none⟩ (.bool false)).setCell ⟨G.ob,5,none⟩ (.bool false)).setCell ⟨G.ob,3,none⟩ (.slice none 0 0))=_ from rfl);clear jm em ks RM EM HJ HU HK;rcases RS.out with⟨MS,hid⟩ | ⟨k,first,cap,MS,hent,hcon⟩
  . rw[MS]at c19
    have Vq:=h_ (HQ.out.trans (by rw[hid]));have hnn:=MQ;clear MS hid RS HQ;rw[<- HM.out]at JM;obtain⟨gq,c1,hsk⟩:=QP.out _ _ _ JM.out;have HS:=h_ hsk;clear hsk QP HM;go_wp2_with fail;refine HS.out.mono ?_;rintro e' wF ⟨rfl,ZF,jF,kF⟩;have JF:=h_ jF;have EF:=h_ (EZ.out.trans kF);clear jF kF;go_wp2_with fail;go_end0;rw[Vq.out];exact⟨rfl,_,JF.out,EF.out⟩
  . rw[MS]at c19
    have hnf:=MR;have T0:∀ (args:Array Value) (w:World),(callFunc k args).run Tryz.prog w=.ok (.enter k args) w:=hent;have HC:=h_ (hcon _ _ _ JM.out);clear MS hent hcon RS HM;go_wp2_with fail;refine HC.out.mono ?_;rintro e' wE ⟨rfl,ZE,jE,kE⟩;have JE:=h_ jE;have EE:=h_ (EZ.out.trans kE);obtain⟨gq,c1,hsk⟩:=QP.out _ _ _ JE.out;have HS:=h_ hsk;clear hsk QP jE kE;go_wp2_with fail;refine HS.out.mono ?_;rintro e' wF ⟨rfl,ZF,jF,kF⟩;have JF:=h_ jF;have EF:=h_ (EE.out.trans kF);clear jF kF;go_wp2_with fail;go_end0;rw[HQ.out];exact⟨rfl,_,JF.out,EF.out⟩
theorem IQ(r:Rd):r.dt.length<=r.src.length:=by
 unfold Rd.dt Src.dA;simp only;refine Nat.le_trans (List.takeWhile_sublist _).length_le ?_;rw[List.length_drop];omega
section
variable {α:Type} {E:Mm α} {RE:World->(Nat->Prop)->α->Prop} {G:Gk}
theorem Qd(n:tC E RE G)(w:World)(Z:Nat->Prop)(q:Rd × α)(c:RJ RE G w Z q) :
 ∃ g,w.cell? ⟨G.ob,1,none⟩=some (cD g)/\Calls prog 76 #[cD g] w fun e w'=>e=.returned (S_ q.1.dt)/\∃ a,RJ RE G w' a (q.1.next,q.2)/\ef w Z w' a:=by
 obtain⟨X,Y,b,f,h,i⟩:=c.parts;obtain⟨g,l,j⟩:=zy G X w q.1 b;exact⟨g,l,j.mono fun e w' ⟨k,o,m,d⟩=>⟨k,RJ.of n c b f h i m d⟩⟩
theorem zA(i:tC E RE G)(w:World)(Z:Nat->Prop)(q:Rd × α)(n:Int)(g : -9223372036854775808<=n)(h:n<=9223372036854775807)(c:RJ RE G w Z q) :
 ∃ b,RJ RE G (w.setCell ⟨G.K.mb,10,none⟩ (I_ n)) b ({ q.1 with v:={ q.1.v with cI:=n } },q.2)/\ef w Z (w.setCell ⟨G.K.mb,10,none⟩ (I_ n)) b:=by
 obtain⟨X,Y,a,d,e,f⟩:=c.parts;have k:cq G.K.ey w (w.setCell ⟨G.K.mb,10,none⟩ (I_ n)):=gW G.K (cq.setCell _ _ _ (fun _=>rfl));exact RJ.of i c a d e f (a.vm (a.fv.Fz n g h) k) (a.uc k)
theorem RJ.rd{w:World}{Z:Nat->Prop}{q:Rd × α}(h:RJ RE G w Z q):∃ X,ej w G X q.1:=h.parts.elim fun X h=>h.elim fun _ h=>⟨X,h.1⟩
theorem IS(l:tC E RE G)(w a:World)(Z:Nat->Prop)(q:Rd × α)(g:Nat)(t:List UInt8)(d:RJ RE G w Z q)(k:K_ w a)(i:w.heap.size<=g)(m:jB a g t 0)(j:t.length<=1000000) :
 ∃ b,RJ RE G (a.setCell ⟨G.ob,1,none⟩ (cD g)) b (q.1.again t,q.2)/\ef w Z (a.setCell ⟨G.ob,1,none⟩ (cD g)) b:=by
 obtain⟨X,Y,c,e,f,h⟩:=d.parts;have:=c.MH k i m j;exact RJ.of l d c e f h this.1 this.2
end
section
variable (G:Gk) (X:Nat->Prop) (w:World) (r:Rd)
theorem F6(xt:Int)(Q:VM × Int)(a:VM.Bt r.v xt Q)(h:ej w G X r):Calls prog 250 #[cD G.K.mb,I_ xt] w (PR G X w (r.vm Q)) :=
 (Qf G.K w r.v xt Q h.fv a).mono fun _ _ ⟨b,c,k⟩=>⟨b,X,h.vm c k,h.uc k⟩
theorem BW(d:Wd)(Q:Rd × Int)(v:r.comp=false)(x:¬ 0<r.oY d)(u:∀ V,ej V G X r->Calls prog 250 #[cD G.K.mb,I_ d.xt] V (PR G X V Q))(h:ej w G X r):Calls prog 143 #[cD G.ob,d.val] w (PR G X w Q):=by
 have c:=h_ fun V (E:ej V G X r)=>BO G X V r d E;have C:=h_ u;generalize r.oY d=k at x c;clear u;have n:=dR w (.cells #[I_ d.cM,I_ d.xt,I_ d.cP,S_ d.name] 53);have M:=h_ h.zw;have f:=h_ (h.cL n);have l:=h_ (ef.kt (X:=X) n);have a:=h_ (cx w (.cells #[I_ d.cM,I_ d.xt,I_ d.cP,S_ d.name] 53));obtain⟨W,m⟩:∃ W,W=w.alloc (.cells #[I_ d.cM,I_ d.xt,I_ d.cP,S_ d.name] 53):=⟨_,rfl⟩;rw[<- m]at f l a;have s:=h_ m;have L:=h_ (KJ d.cP);have F:=cp (i:=0) a.out rfl;have H:=cp (i:=1) a.out rfl;have I:=cp (i:=2) a.out rfl;have J:=cp (i:=3) a.out rfl;unfold Wd.val at c |-;clear h n m;go_enter func143,ntmps143;go_upto_region 1 with fail;rw[<- s.out];clear s;go_wp2_with fail;refine(c.out _ f.out).mono ?_;rintro e b ⟨rfl,j⟩;have g:=h_ (f.out.cL j);have A:=h_ (l.out.trans (ef.kt j));have q:=h_ (j.heap a.out id);have S:C_ b w.heap.size 1=some (I_ d.xt):=cp q.out rfl;have T:C_ b w.heap.size 2=some (I_ d.cP):=cp q.out rfl;clear j F H I J c f l a;have o:=g.out.o4;have y:=g.out.o0;have z:=g.out.v0;rw[v]at o;have O:decide (0<k)=false:=decide_eq_false (by omega);clear x v;go_wp2_with fail;go_still_tail 6,(by kernel_rfl);try change wpList _ _ _ _ _ b.drew
 have t:=h_ (g.out.cL (fw b));have p:=h_ (A.out.trans (ef.kt (fw b)));try clear y;try clear o;try clear z
 generalize b.drew=P at t p |-;go_wp2_with fail;refine ir (C.out _ t.out) p ?_;intro R N D B;try clear y;try clear o;try clear z
 go_wp2_with fail;go_ret;exact⟨rfl,_,D.out,B.out⟩
theorem zB(d:Wd)(y:r.comp=true)(z:d.cP % 2=0)(o:r.oY d≠2)(h:ej w G X r):Calls prog 143 #[cD G.ob,d.val] w (PR G X w (r.cN d.xt)):=by
 have c:=h_ fun V (m:ej V G X r)=>BO G X V r d m;have u:=h_ fun V (m:ej V G X r)=>pg G X V r d.xt m;generalize r.oY d=k at o c;generalize r.cN d.xt=P at u |-;have p:=dR w (.cells #[I_ d.cM,I_ d.xt,I_ d.cP,S_ d.name] 53);have L:=h_ h.zw;have f:=h_ (h.cL p);have l:=h_ (ef.kt (X:=X) p);have a:=h_ (cx w (.cells #[I_ d.cM,I_ d.xt,I_ d.cP,S_ d.name] 53));obtain⟨W,n⟩:∃ W,W=w.alloc (.cells #[I_ d.cM,I_ d.xt,I_ d.cP,S_ d.name] 53):=⟨_,rfl⟩;rw[<- n]at f l a;have v:=h_ n;have E:=h_ (KJ d.cP);have H:=cp (i:=0) a.out rfl;have I:=cp (i:=1) a.out rfl;have J:=cp (i:=2) a.out rfl;have K:=cp (i:=3) a.out rfl;unfold Wd.val at c |-;clear h p n;go_enter func143,ntmps143;go_upto_region 1 with fail;rw[<- v.out];clear v;go_wp2_with fail;refine(c.out _ f.out).mono ?_;rintro e b ⟨rfl,j⟩;have g:=h_ (f.out.cL j);have C:=h_ (l.out.trans (ef.kt j));have t:=h_ (j.heap a.out id);have S:C_ b w.heap.size 1=some (I_ d.xt):=cp t.out rfl;have T:C_ b w.heap.size 2=some (I_ d.cP):=cp t.out rfl;clear j H I J K c f l a;have q:=g.out.o4;have A:=g.out.o0;have B:=g.out.v0;rw[y]at q;have O:bits .and .i64 d.cP 1=0:=by rw[E.out];exact z
 have N:(k == 2)=false:=by simp[o]
 clear z y o;go_wp2_with fail;go_still_tail 9,(by kernel_rfl);try change wpList _ _ _ _ _ b.drew
 have x:=h_ (g.out.cL (fw b));have s:=h_ (C.out.trans (ef.kt (fw b)));try clear A;try clear q;try clear B
 generalize b.drew=Q at x s |-;go_wp2_with fail;refine ir (u.out _ x.out) s ?_;intro R M F D;try clear A;try clear q;try clear B
 go_wp2_with fail;go_ret;exact⟨rfl,_,F.out,D.out⟩
end
theorem sM(G:Gk)(X:Nat->Prop)(w:World)(r:Rd)(s low:List UInt8)(hs:s.length<=1000000)(hlow:cG s=low)(hno:G.fm low=none)(hk:il low=none)(Q:Rd × Int)
 (hq:match r.v.x.mem.find s r.eE with
   | some d=>∀ V Y,ej V G Y r->Calls Tryz.prog 143 #[cD G.ob,d.val] V (PR G Y V Q)
   | none=>((dE.lH s r.v.oj).2=true/\Q=r.gX [(dE.lH s r.v.oj).1])\/((dE.lH s r.v.oj).2=false/\Q=(r,-13))) (hg:Gl w X) (h:ej w G X r) :
 Calls Tryz.prog 77 #[cD G.ob,S_ s] w (PR G X w Q):=by
 have KU:=h_ h.ok.eE;have Sf:=h_ fun V Y (hV:ej V G Y r)=>FE G.K V r.v hV.fv
 have HQ:=h_ hq;clear hq;have HL:=h_ fun V=>iC V s (by omega)
 have hll:=sL s;rw[hlow]at HL hll;have HF:=h_ hno;have Tz:=h_ hg;have R0:=h_ h;have E0:=h_ (ef.refl w X);have TW:=R0.out.TW;clear h hno hg
 go_enter Tryz.func77,Tryz.ntmps77
 go_wp2_with fail;refine(HL.out w).mono ?_;rintro e w1 ⟨rfl,k1⟩;have R1:=h_ (R0.out.cL k1);have E1:=h_ (E0.out.trans (ef.kt k1));clear k1
 try clear TW
 have TW:=R1.out.TW
 go_wp2_with (first
  | (at_lookup;refine jd sk _ rfl _ _ 57 rfl _ Tryz.underlying57 _ (rO _) G.mm G.nm G.fm rfl R1.out.Sw low (show low.length<=maxLen by unfold maxLen;omega) rfl _ HF.out ?_;dsimp only[Option.getD_none,Option.isSome_none]))
 refine(sY w1).mono ?_;rintro e w2 ⟨bW,rfl,fW,hW,hgW,_,k2⟩;have HW:=h_ hW;have Sh:=h_ (hgW low);have R2:=h_ (R1.out.cL k2);have E2:=h_ (E1.out.trans (ef.kt k2));clear hW hgW k2 TW;have hgw:=Sh.out;rw[hk]at hgw;have HV:=h_ hgw;clear hgw hk;have JQ:=h_ fun V Y n (hV:ej V G Y r)=>tB G Y V r n hV
 go_wp2_with (first
  | (at_lookup;refine jd sk _ rfl _ _ 57 rfl _ Tryz.underlying57 _ (rO _) bW _ fW rfl HW.out low (show low.length<=maxLen by unfold maxLen;omega) rfl _ HV.out ?_;dsimp only[Option.getD_none,Option.isSome_none]))
 obtain⟨la,lc,c2,hown⟩:=R2.out.iG;have HOW:=h_ hown;have c0:=R2.out.o0;have m0:=R2.out.v0;have s0:=R2.out.vs;obtain⟨YN,Si,hsb,_⟩:=R2.out.sV;obtain⟨wq,hwq⟩:∃ wq,wq=w2:=⟨_,rfl⟩;subst hwq;have En:=h_ fun V (k:K_ wq V)=>FW G.K V r.v s la lc r.eE (by omega) (HOW.out V k) KU.out (R2.out.fv.cL k)
 clear hown
 cases hd:r.v.x.mem.find s r.eE with
 | none =>
  have hq:=HQ.out;rw[hd]at En hq;simp only at hq
  have Vq:=h_ hq;clear hd hq HQ;go_upto_region 8 with fail
  go_cut [10,11] (fun v6 v7 wx=>∃ g:Nat,v6=cD g/\v7=.bool false/\eU g 0 0 0 [] wx/\K_ wq wx)
  case first =>
   go_region_held3 (fun w'=>w'.cell? ⟨G.ob,0,none⟩=some (cD G.K.mb)/\w'.cell? ⟨G.ob,2,none⟩=some (.slice la r.eE.length lc)/\w'.cell? ⟨G.K.mb,0,none⟩=some (cD G.K.s)/\w'.cell? ⟨G.K.s,0,none⟩=some (cD G.K.b))
    (first | go_keep)
    (first
      | (go_at_call 42;refine(En.out (wq.alloc (.cells #[I_ 0,I_ 0,I_ 0,.string ⟨#[]⟩] 53)).drew ((dR wq (.cells #[I_ 0,I_ 0,I_ 0,.string ⟨#[]⟩] 53)).trans (cq.drew _ _))).mono ?_;rintro e w4 ⟨rfl,k4⟩;dsimp only[ot,Wd.val]
         have ks:=((dR wq (.cells #[I_ 0,I_ 0,I_ 0,.string ⟨#[]⟩] 53)).trans (fw _)).trans k4;have hz:=k4.heap (show((wq.alloc (.cells #[I_ 0,I_ 0,I_ 0,.string ⟨#[]⟩] 53)).drew).heap[wq.heap.size]?=_ from cx wq _) id
         have e0:w4.cell? ⟨G.ob,0,none⟩=some (cD G.K.mb):=ks.cell c0 id;have e2:w4.cell? ⟨G.ob,2,none⟩=some (.slice la r.eE.length lc):=ks.cell c2 id;have em:w4.cell? ⟨G.K.mb,0,none⟩=some (cD G.K.s):=ks.cell m0 id;have es:w4.cell? ⟨G.K.s,0,none⟩=some (cD G.K.b):=ks.cell s0 id;have z0:w4.cell? ⟨wq.heap.size,0,none⟩=some (I_ 0):=cp hz rfl;have z1:w4.cell? ⟨wq.heap.size,1,none⟩=some (I_ 0):=cp hz rfl;have z2:w4.cell? ⟨wq.heap.size,2,none⟩=some (I_ 0):=cp hz rfl;have z3:w4.cell? ⟨wq.heap.size,3,none⟩=some (.string ⟨#[]⟩):=cp hz rfl;have q0:=cB (i:=0) hz;have q1:=cB (i:=1) hz;have q2:=cB (i:=2) hz;have q3:=cB (i:=3) hz;have n1:wq.heap.size≠G.ob:=by omega
         have n2:wq.heap.size≠G.K.mb:=by omega
         have n3:wq.heap.size≠G.K.s:=by omega
         have n1':G.ob≠wq.heap.size:=by omega
         have SO:G.K.mb≠wq.heap.size:=by omega
         have Tb:G.K.s≠wq.heap.size:=by omega)
      | (go_at_call 42;refine(En.out wq.drew (cq.drew _ _)).mono ?_;rintro e w4 ⟨rfl,k4⟩;dsimp only[ot,Wd.val]
         have ks:=(fw wq).trans k4;have e0:w4.cell? ⟨G.ob,0,none⟩=some (cD G.K.mb):=ks.cell c0 id;have e2:w4.cell? ⟨G.ob,2,none⟩=some (.slice la r.eE.length lc):=ks.cell c2 id;have em:w4.cell? ⟨G.K.mb,0,none⟩=some (cD G.K.s):=ks.cell m0 id;have es:w4.cell? ⟨G.K.s,0,none⟩=some (cD G.K.b):=ks.cell s0 id;have l1:=World.block_lt_of_cell? w4 _ e0;have l2:=World.block_lt_of_cell? w4 _ em
         have l3:=World.block_lt_of_cell? w4 _ es))
   all_goals
    go_wp2_with fail
    go_meet
    refine⟨_,rfl,rfl,?_⟩
    first
     | (have hB:=lI (g:=wq.heap.size) hz (I_ 0) (I_ 0) (I_ 0) (.string ⟨#[]⟩)
        have kB:=ei ks wq.heap.size (I_ 0) (I_ 0) (I_ 0) (.string ⟨#[]⟩) (Nat.le_refl _)
        exact⟨hB,kB⟩)
     | (have hA:=cx w4 (.cells #[(I_ 0),(I_ 0),(I_ 0),(.string ⟨#[]⟩)] 53)
        have kA:=ks.trans (dR w4 (.cells #[(I_ 0),(I_ 0),(I_ 0),(.string ⟨#[]⟩)] 53))
        exact⟨hA,kA⟩)
  case rest =>
   obtain⟨g,rfl,rfl,hw,kc⟩:=hcut;have R3:=h_ (R2.out.cL kc);have E3:=h_ (E2.out.trans (ef.kt kc));clear hw kc c0 c2 m0 s0 En;have o0:=R3.out.o0;go_wp2_with fail;refine(Sf.out wc _ R3.out).mono ?_;rintro e w4 ⟨rfl,k4⟩;have R4:=h_ (R3.out.cL k4);have E4:=h_ (E3.out.trans (ef.kt k4));clear k4
   try clear o0;try clear TW
   go_wp2_with fail;have Im:=h_ (Hy w4 s r.v.oj (by omega))
   generalize r.v.oj=bs at Im Vq;generalize dE.lH s bs=p at Im Vq;obtain⟨n,ok⟩:=p;simp only at Im Vq
   rcases Vq.out with⟨hok2,hq⟩ | ⟨hok2,hq⟩
   . subst hok2
     refine(Im.out).mono ?_;rintro e w5 ⟨rfl,k5⟩;have R5:=h_ (R4.out.cL k5);have E5:=h_ (E4.out.trans (ef.kt k5));clear k5
     try clear o0;try clear TW
     replace JQ:=h_ (JQ.out w5 _ n R5.out);rw[<- hq]at JQ;clear hq Vq;go_wp2_with fail;refine ir (JQ.out) E5 ?_;intro w6 X6 R6 E6
     try clear o0;try clear TW
     go_wp2_with fail;go_ret
     exact⟨rfl,_,R6.out,E6.out⟩
   . subst hok2
     subst hq;clear Vq;refine(Im.out).mono ?_;rintro e w5 ⟨rfl,k5⟩;have R5:=h_ (R4.out.cL k5);have E5:=h_ (E4.out.trans (ef.kt k5));clear k5
     try clear o0;try clear TW
     go_wp2_with fail;go_ret
     exact⟨rfl,_,R5.out,E5.out⟩
 | some d =>
  have hq:=HQ.out;rw[hd]at En hq;simp only at hq
  have Pe:=h_ hq;clear hd hq HQ;obtain⟨da,dx,df,dn⟩:=d;unfold Wd.val at Pe;go_upto_region 8 with fail
  go_cut [10,11] (fun v6 v7 wx=>∃ g:Nat,v6=cD g/\v7=.bool true/\eU g da dx df dn wx/\K_ wq wx)
  case first =>
   go_region_held3 (fun w'=>w'.cell? ⟨G.ob,0,none⟩=some (cD G.K.mb)/\w'.cell? ⟨G.ob,2,none⟩=some (.slice la r.eE.length lc)/\w'.cell? ⟨G.K.mb,0,none⟩=some (cD G.K.s)/\w'.cell? ⟨G.K.s,0,none⟩=some (cD G.K.b))
    (first | go_keep)
    (first
      | (go_at_call 42;refine(En.out (wq.alloc (.cells #[I_ 0,I_ 0,I_ 0,.string ⟨#[]⟩] 53)).drew ((dR wq (.cells #[I_ 0,I_ 0,I_ 0,.string ⟨#[]⟩] 53)).trans (cq.drew _ _))).mono ?_;rintro e w4 ⟨rfl,k4⟩;dsimp only[ot,Wd.val]
         have ks:=((dR wq (.cells #[I_ 0,I_ 0,I_ 0,.string ⟨#[]⟩] 53)).trans (fw _)).trans k4;have hz:=k4.heap (show((wq.alloc (.cells #[I_ 0,I_ 0,I_ 0,.string ⟨#[]⟩] 53)).drew).heap[wq.heap.size]?=_ from cx wq _) id
         have e0:w4.cell? ⟨G.ob,0,none⟩=some (cD G.K.mb):=ks.cell c0 id;have e2:w4.cell? ⟨G.ob,2,none⟩=some (.slice la r.eE.length lc):=ks.cell c2 id;have em:w4.cell? ⟨G.K.mb,0,none⟩=some (cD G.K.s):=ks.cell m0 id;have es:w4.cell? ⟨G.K.s,0,none⟩=some (cD G.K.b):=ks.cell s0 id;have z0:w4.cell? ⟨wq.heap.size,0,none⟩=some (I_ 0):=cp hz rfl;have z1:w4.cell? ⟨wq.heap.size,1,none⟩=some (I_ 0):=cp hz rfl;have z2:w4.cell? ⟨wq.heap.size,2,none⟩=some (I_ 0):=cp hz rfl;have z3:w4.cell? ⟨wq.heap.size,3,none⟩=some (.string ⟨#[]⟩):=cp hz rfl;have q0:=cB (i:=0) hz;have q1:=cB (i:=1) hz;have q2:=cB (i:=2) hz;have q3:=cB (i:=3) hz;have n1:wq.heap.size≠G.ob:=by omega
         have n2:wq.heap.size≠G.K.mb:=by omega
         have n3:wq.heap.size≠G.K.s:=by omega
         have n1':G.ob≠wq.heap.size:=by omega
         have SO:G.K.mb≠wq.heap.size:=by omega
         have Tb:G.K.s≠wq.heap.size:=by omega)
      | (go_at_call 42;refine(En.out wq.drew (cq.drew _ _)).mono ?_;rintro e w4 ⟨rfl,k4⟩;dsimp only[ot,Wd.val]
         have ks:=(fw wq).trans k4;have e0:w4.cell? ⟨G.ob,0,none⟩=some (cD G.K.mb):=ks.cell c0 id;have e2:w4.cell? ⟨G.ob,2,none⟩=some (.slice la r.eE.length lc):=ks.cell c2 id;have em:w4.cell? ⟨G.K.mb,0,none⟩=some (cD G.K.s):=ks.cell m0 id;have es:w4.cell? ⟨G.K.s,0,none⟩=some (cD G.K.b):=ks.cell s0 id;have l1:=World.block_lt_of_cell? w4 _ e0;have l2:=World.block_lt_of_cell? w4 _ em
         have l3:=World.block_lt_of_cell? w4 _ es))
   all_goals
    go_wp2_with fail
    go_meet
    refine⟨_,rfl,rfl,?_⟩
    first
     | (have hB:=lI (g:=wq.heap.size) hz (I_ da) (I_ dx) (I_ df) (S_ dn)
        have kB:=ei ks wq.heap.size (I_ da) (I_ dx) (I_ df) (S_ dn) (Nat.le_refl _)
        exact⟨hB,kB⟩)
     | (have hA:=cx w4 (.cells #[(I_ da),(I_ dx),(I_ df),(S_ dn)] 53)
        have kA:=ks.trans (dR w4 (.cells #[(I_ da),(I_ dx),(I_ df),(S_ dn)] 53))
        exact⟨hA,kA⟩)
  case rest =>
   obtain⟨g,rfl,rfl,hw,kc⟩:=hcut;have x0:wc.cell? ⟨g,0,none⟩=some (I_ da):=cp hw rfl;have x1:wc.cell? ⟨g,1,none⟩=some (I_ dx):=cp hw rfl;have x2:wc.cell? ⟨g,2,none⟩=some (I_ df):=cp hw rfl;have x3:wc.cell? ⟨g,3,none⟩=some (S_ dn):=cp hw rfl;have R3:=h_ (R2.out.cL kc);have E3:=h_ (E2.out.trans (ef.kt kc));clear hw kc c0 c2 m0 s0 En;go_wp2_with fail;refine ir (Pe.out wc _ R3.out) E3 ?_;intro w4 X4 R4 E4
   try clear o0;try clear TW
   go_wp2_with fail;go_ret
   exact⟨rfl,_,R4.out,E4.out⟩
set_option maxRecDepth 100000
open Go.RowKit Go.Proofs.tI
theorem drop_zero(s:dK)(h:0<=s.gm):(s.drop 0).1={ s with depth:=0 }:=by
 unfold dK.drop;rw[if_neg (by omega),if_neg (by omega)]
theorem El(v:VM)(e:Int)(a:0<=v.d.gm)(b:0<=v.r.gm):Rd.eK v e={ v.put (Rd.eW e)with d:={ v.d with depth:=0 },r:={ v.r with depth:=0 } }:=by
 show({ v.put (Rd.eW e)with d:=(v.d.drop 0).1,r:=(v.r.drop 0).1 }:VM)=_;rw[drop_zero _ a,drop_zero _ b]
open Go.Proofs.tI
def UB(L:List Wd):List UInt8->Option Int:=L.foldl (fun f d=>fun s=>if s=d.name then some d.xt else f s) (fun _=>none)
def SC(v:VM):Rd:=⟨v,UB (v.x.mem.fR v.cF),[],0,[v.cF],[],false,false,Wd.none,Wd.none,0,0,false⟩
namespace NZ
def m1(d t r h:Int):Mem:=(Heap.put (Mem.zero (d+t*8+r*8+h).toNat) ⟨d+t*8+r*8,h,false⟩).1
def x1(d t r h:Int):Sp:=(Class.root ⟨m1 d t r h,8,d,8⟩).1
def y(d t r h:Int):Sp:=match Vm.qT (x1 d t r h)with | some r=>r.1 | none=>⟨⟨0,0⟩,0,0,0⟩
structure MX(d t r h:Int):Prop where
 ok:AY d t r h (m1 d t r h) (x1 d t r h) (y d t r h) 8 16 24 2824
 sz:(y d t r h).mem.size=(d+t*8+r*8+h).toNat
 dD:(y d t r h).mem.cell 16=(10,0)
end NZ
set_option maxRecDepth 10000
theorem MY(L:List Wd)(f:List UInt8->Option Int)(F:List UInt8->Option Value)(h:∀ s,F s=(f s).map (Value.int .i64))(s:List UInt8) :
 L.foldl LV F s=(L.foldl (fun f d=>fun s=>if s=d.name then some d.xt else f s) f s).map (Value.int .i64):=by
 induction L generalizing f F with
 | nil=>exact h s
 | cons d L a =>
  rw[List.foldl_cons,List.foldl_cons];refine a _ _ (fun s=>?_);unfold LV ny;by_cases e:s=d.name
  . rw[if_pos e,if_pos e];rfl
  . rw[if_neg e,if_neg e];exact h s
theorem MZ(L:List Wd):L.foldl LV (fun _=>none)=fun s=>(UB L s).map (Value.int .i64):=funext fun s=>MY L (fun _=>none) (fun _=>none) (fun _=>rfl) s
theorem SE{w:World}{e:TypeId}{d n c g:Nat}{f:List Value}(h:fp w e d (some ⟨g,0,none⟩) n c f):g<w.heap.size:=by
 rcases h.jK with⟨a,_⟩ | ⟨i,cur,a,b,_⟩
 . cases a
 . cases a
   exact cA b
set_option maxRecDepth 100000
namespace BP
theorem BY{α β:Type}{p:α × β}{b:β}(h:p.2=b):p=(p.1,b):=Prod.ext rfl h
def M8(s:List UInt8)(q:Rd × Oo):Option ((Rd × Oo) × Int) :=
 match gr (cG s)with
 | some k =>
  if k=160\/k=163\/k=164\/k=165\/k=170\/k=171 then some (Oo.Wf k q)
  else if k=161/\q.2.eH.isEmpty=true then some (Oo.iS q)
  else none
 | none=>none
theorem M9{s:List UInt8}{q:Rd × Oo}{Q:(Rd × Oo) × Int}(h:M8 s q=some Q):ig s q Q:=by
 unfold M8 at h;split at h
 . rename_i k hk
   split at h
   . rename_i h1;cases h;exact .obj k hk h1
   split at h
   . rename_i h1
     obtain⟨rfl,h2⟩:=h1
     cases h
     exact .Sm hk (List.isEmpty_iff.1 h2)
   . cases h
 . cases h
def F':Nat->(Rd × Oo) × Int->Option ((Rd × Oo) × Int)
 | 0,_=>none
 | n+1,(q,l) =>
  if q.1.v.dL=false then
   if q.1.dt=[] then some ((q.1.next,q.2),l)
   else if 0<q.1.v.cI then
    match M8 q.1.dt (Oo.cH q)with
    | some p=>if p.2=0/\p.1.1.v.cI<q.1.v.cI then F' n (p.1,l)else none
    | none=>none
   else none
  else none
theorem B':∀ {n:Nat} {q Q:(Rd × Oo) × Int},F' n q=some Q->fH q Q
 | 0,_,_,h=>by cases h
 | n+1,(q,l),Q,h=>by
  unfold F' at h;split at h
  . rename_i h0
    split at h
    . rename_i h1;cases h;exact .done q l h0 h1
    . rename_i h1
      split at h
      . rename_i h2
        split at h
        . rename_i p hp
          split at h
          . rename_i h3
            exact .ok q p.1 l Q h0 h1 h2 (BY h3.1 ▸ M9 hp) h3.2 (B' h)
          . cases h
        . cases h
      . cases h
  . cases h
def no:gJ:=⟨0,0,0,0,0⟩
def F7(m:Mem)(p x:gJ):Bool :=
 decide (-4611686018427387904<=x.table/\x.table<=4611686018427387904) && decide (-4611686018427387904<=p.table/\p.table<=4611686018427387904) && decide (dj.cy m x.table≠0) &&
 (dj.all m x.table).all (fun e=>decide ((dj.get m x.table e.cZ).2.2=true/\(dj.get m x.table e.cZ).1=e/\(e.j7=x.cM\/(x.cE≠0/\(dj.get m p.table e.cZ).2.2=true/\(dj.get m p.table e.cZ).1=e)))) &&
 (dj.all m p.table).all (fun y=>decide (x.cE≠0->(dj.get m x.table y.cZ).2.2=true))
theorem BS{m:Mem}{p x:gJ}(h:F7 m p x=true):uX m p x:=by
 unfold F7 at h;simp only[Bool.and_eq_true,decide_eq_true_eq,List.all_eq_true]at h
 obtain⟨⟨⟨⟨h1,h2⟩,h3⟩,h4⟩,h5⟩:=h;exact⟨h1,h2,h3,h4,fun hn y hy=>h5 y hy hn⟩
def tG(m:Mem)(L:List gJ):Bool :=
 (List.range L.length).all (fun i=>decide ((L.getD i no).cE=0) || (List.range i).any fun j=>decide ((L.getD j no).cM=(L.getD i no).cE)) &&
 L.all (fun x=>decide (8<=x.size/\x.size % 8=0)) &&
 L.all (fun x=>(no :: L).all fun p=>decide (¬ ((x.cE=0/\p=no)\/(x.cE≠0/\p.cM=x.cE))) || (decide (p.size<=x.size) && F7 m p x))
theorem ng{m:Mem}{L:List gJ}(h:tG m L=true):ri m L:=by
 unfold tG at h;simp only[Bool.and_eq_true,List.all_eq_true]at h
 obtain⟨⟨h1,h2⟩,h3⟩:=h;refine⟨fun i hi=>?_,fun x hx=>of_decide_eq_true (h2 x hx),fun x hx p hp=>?_⟩
 . have:=h1 i (List.mem_range.2 hi)
   rw[Bool.or_eq_true]at this;have e:L.getD i no=L[i]:=by rw[List.getD_eq_getElem?_getD,List.getElem?_eq_getElem hi];rfl
   rw[e]at this
   rcases this with h | h
   . exact .inl (of_decide_eq_true h)
   . obtain⟨j,hj,he⟩:=List.any_eq_true.1 h
     have hj:=List.mem_range.1 hj;have e2:L.getD j no=L[j]:=by rw[List.getD_eq_getElem?_getD,List.getElem?_eq_getElem (by omega)];rfl
     rw[e2]at he;exact .inr ⟨j,by omega,hj,of_decide_eq_true he⟩
 . have key:∀ p ∈ no :: L,((x.cE=0/\p=no)\/(x.cE≠0/\p.cM=x.cE))->p.size<=x.size/\uX m p x:=by
    intro p hpm hpp;have:=h3 x hx p hpm;rw[Bool.or_eq_true]at this
    rcases this with h | h
    . exact absurd hpp (of_decide_eq_true h)
    . rw[Bool.and_eq_true]at h
      exact⟨of_decide_eq_true h.1,BS h.2⟩
   rcases hp with⟨a,b⟩ | ⟨a,b,c⟩
   . exact key p (by rw[b];exact List.mem_cons_self) (.inl ⟨a,b⟩)
   . exact key p (List.mem_cons_of_mem _ b) (.inr ⟨a,c⟩)
theorem pE:NZ.MX 8000 9 9 80:=⟨⟨by decide,by decide,by decide,by decide,by decide,by decide,by decide,by decide +kernel,by decide +kernel,by decide +kernel⟩,by decide +kernel,by decide +kernel⟩
def src:List UInt8:=[99,108,97,115,115,32,97,32,45,32,109,101,116,104,111,100,32,109,32,101,110,100,109,32,101,110,100,99,108,97,115,115,32,99,108,97,115,115,32,98,32,97,32,101,110,100,99,108,97,115,115]
def XE:VM:={ VM.fresh 8000 9 9 4 80 [] (NZ.y 8000 9 9 80) 8 16 24 2824 with cI:=100 }
def qE:Rd × Oo:=(SC XE,Oo.start)
theorem F8:ri (NZ.y 8000 9 9 80).mem (Class.all (NZ.y 8000 9 9 80).mem 8):=ng (by decide +kernel)
theorem SF:(F' 20 ((qE.1.again src,qE.2),0)).map (fun Q=>(tG Q.1.1.v.x.mem (Class.all Q.1.1.v.x.mem 8),Q.1.1.v.root))=some (true,8):=by decide +kernel
theorem pJ:∃ Q:(Rd × Oo) × Int,fH ((qE.1.again src,qE.2),0) Q/\ri Q.1.1.v.x.mem (Class.all Q.1.1.v.x.mem 8)/\Q.1.1.v.root=8:=by
 obtain⟨Q,h,e⟩:=Option.map_eq_some_iff.1 SF;exact⟨Q,B' h,ng (congrArg Prod.fst e),congrArg Prod.snd e⟩
end BP
open Class (dG)
namespace wT
theorem pM:NZ.MX 60000 60 200 800:=⟨⟨by decide,by decide,by decide,by decide,by decide,by decide,by decide,by decide +kernel,by decide +kernel,by decide +kernel⟩,by decide +kernel,by decide +kernel⟩
def X:Sp:=NZ.y 60000 60 200 800
def ws:List Wd:=X.mem.fR 24
def pf:List UInt8->Option Int:=UB ws
def rQ:List (List UInt8):=[[108,105,116],[40,101,120,105,116,109,41],[40,115,117,112,101,114,41],[40,115,101,110,100,41],[40,99,97,108,108,41],[101,120,105,116],[40,99,97,117,103,104,116,41]]
def fx:List (Int × Int):=((rQ++[[49,43],[99,97,116,99,104]]).map fun s=>((pf s).getD 0,num s))++[(2824,(pf [40,99,97,117,103,104,116,41]).getD 0)]
def D0:eF:=⟨[],[],[],ws,fx⟩
def XF:VM:={ VM.fresh 60000 60 200 9 800 [] X 8 16 24 2824 with cI:=100000 }
def q0:Fo.Q:=(SC XF,Oo.start)
def Ep(m:Mem):List Wd->Int->Int->Bool
 | [],ea,a=>decide (¬ (0<a/\a<ea))
 | w :: ws,ea,a=>decide (0<a/\a<ea) && decide (m.Ym a=some (w,(m.cell a).1)) && Ep m ws a (m.cell a).1
theorem yf{m:Mem}:∀ {ws:List Wd} {ea a:Int},Ep m ws ea a=true->m.jG ws ea a
 | [],_,_,h=>of_decide_eq_true (p:=¬ (0<_/\_<_)) h
 | _ :: _,_,_,h=>by
  unfold Ep at h;rw[Bool.and_eq_true,Bool.and_eq_true]at h;exact⟨of_decide_eq_true h.1.1,of_decide_eq_true h.1.2,yf h.2⟩
theorem QS:X.cu=2832/\X.lo=8/\X.to=60000/\X.mem.size=62880/\X.mem.cell 0=(0,0)/\X.mem.cell 8=(0,0)/\X.mem.cell 16=(10,0)/\(X.mem.cell 24).2=0:=by decide +kernel
theorem SG:X.mem.jG ws X.mem.size (X.mem.cell 24).1:=yf (by decide +kernel)
theorem Er:∀ w ∈ ws,32<=w.cM/\w.cM<w.xt/\w.xt+8<=2832:=by decide +kernel
theorem UC:∀ p ∈ fx,X.mem.cell p.1=(p.2,0)/\32<=p.1/\p.1+8<=2832/\∀ w ∈ ws,p.1+8<=w.cM\/w.xt<=p.1:=by decide +kernel
theorem XG:ws.Pairwise fun a b=>b.xt<=a.cM:=by decide +kernel
theorem XH:D0.In X:=by
 obtain⟨c,g,h,e,k,l,m,n⟩:=QS;refine⟨⟨?_,by rw[c];decide⟩,⟨rfl,rfl,fun i a=>absurd a (Nat.not_lt_zero i),fun i a=>absurd a (Nat.not_lt_zero i),by rw[c];decide,by rw[c,e];decide,fun i a=>absurd a (Nat.not_lt_zero i),fun i j _ b=>absurd b (Nat.not_lt_zero j),l,fun i a=>absurd a (Nat.not_lt_zero i),fun i a=>absurd a (Nat.not_lt_zero i),fun i a=>absurd a (Nat.not_lt_zero i)⟩,g,h,e,by rw[c];decide,k,m,n,SG,fun w f=>?_,fun p d=>?_,XG,fun j b=>absurd b (Nat.not_lt_zero j),fun j b=>absurd b (Nat.not_lt_zero j)⟩
 . unfold Sp.Ok;rw[c,g,h,e];decide
 . rw[c];exact⟨(Er w f).1,(Er w f).2.1,(Er w f).2.2,fun j b=>absurd b (Nat.not_lt_zero j)⟩
 . rw[c];exact⟨(UC p d).1,(UC p d).2.1,(UC p d).2.2.1,fun j b=>absurd b (Nat.not_lt_zero j),(UC p d).2.2.2⟩
instance (n:Int):Decidable (dB n):=by unfold dB;infer_instance
theorem Ng:∀ s ∈ rQ,pf s=some ((pf s).getD 0)/\dB ((pf s).getD 0):=by decide +kernel
theorem Nh:Mem.dv ws [49,43]=some ((Mem.dv ws [49,43]).getD Wd.none)/\((Mem.dv ws [49,43]).getD Wd.none).cP % 2=0/\dB ((Mem.dv ws [49,43]).getD Wd.none).xt/\pf [49,43]=some ((Mem.dv ws [49,43]).getD Wd.none).xt:=by decide +kernel
theorem Es:Mem.dv ws [99,97,116,99,104]=some ((Mem.dv ws [99,97,116,99,104]).getD Wd.none)/\dB ((Mem.dv ws [99,97,116,99,104]).getD Wd.none).xt/\pf [99,97,116,99,104]=some ((Mem.dv ws [99,97,116,99,104]).getD Wd.none).xt:=by decide +kernel
theorem T8:ws.all (fun w=>Fo.bZ w.name)=true:=by decide +kernel
theorem Ni(s:List UInt8)(a:s ∈ rQ++[[49,43],[99,97,116,99,104]]):((pf s).getD 0,num s) ∈ fx:=List.mem_append_left _ (List.mem_map.2 ⟨s,a,rfl⟩)
theorem T9:Fo.sK pf D0:=by
 refine⟨fun s a=>⟨_,(Ng s a).1,(Ng s a).2,Ni s (List.mem_append_left _ a)⟩,⟨_,Nh.1,Nh.2.1,Nh.2.2.1,?_⟩,⟨_,Es.1,Es.2.1,?_⟩,T8,⟨_,(Ng _ (by decide)).1,List.mem_append_right _ (List.mem_singleton.2 rfl)⟩⟩
 . have:=Ni [49,43] (by decide)
   rw[Nh.2.2.2]at this;exact this
 . have:=Ni [99,97,116,99,104] (by decide)
   rw[Es.2.2]at this;exact this
def x1:Int:=((Mem.dv ws [49,43]).getD Wd.none).xt
theorem Vt(c:Nat->Int):Fo.ou pf [] [] D0 [] c x1 :=
 ⟨T9,⟨_,Nh.1,rfl⟩,⟨List.nodup_nil,fun s b=>absurd b (List.not_mem_nil)⟩,rfl,fun i a=>absurd a (Nat.not_lt_zero i),fun i a=>absurd a (Nat.not_lt_zero i),fun i a=>absurd a (Nat.not_lt_zero i),fun i a=>absurd a (Nat.not_lt_zero i),fun i a=>absurd a (Nat.not_lt_zero i),fun i a=>absurd a (Nat.not_lt_zero i)⟩
theorem XI:Fo.St pf D0 [] 0 none 100000 q0 :=
 ⟨XH,rfl,rfl,rfl,rfl,rfl,rfl,rfl,rfl,rfl,rfl,rfl,rfl,rfl,⟨[],rfl,fun a b=>absurd b (List.not_mem_nil),fun _ _=>rfl⟩,rfl,fun h=>absurd rfl h,fun _ _ _ h=>(by cases h),rfl,fun _ _ h=>(by cases h),fun _ _=>rfl,rfl⟩
end wT
set_option maxRecDepth 10000
namespace Fo
variable {pf:List UInt8->Option Int} {dM:List Act} {TL:List dr} {D:eF} {S:List (List UInt8)} {τ:Nat->Int} {x1:Int} {L R:List Int} {v:VM} {i s h_ f:Int} {q:Q}
theorem ou.ie{D':eF}{S':List (List UInt8)}(hR:ou pf dM TL D S τ x1)(hA:D'.A=D.A)(hL:D'.L=D.L)(hF:∀ z ∈ D.fx,z ∈ D'.fx)(hw:D'.ws=D.ws)(hS:BA S')(hS2:∀ s ∈ S,s ∈ S'/\fi S' s=fi S s):ou pf dM TL D' S' τ x1:=by
 refine⟨?_,by rw[hw];exact(by obtain⟨w,a,b⟩:=hR.one;exact⟨w,a,b⟩),hS,by rw[hL];exact hR.len,fun i hi=>by rw[hL];exact hR.cg i hi,hR.cy,fun i hi=>?_,fun i hi p hp=>?_,fun i hi=>?_,fun i hi=>?_⟩
 . exact hR.dD.grow hF (by rw[hw]) (by rw[hw]) (by rw[hw];exact hR.dD.zr)
 . rw[hL,hR.own i hi]
   refine List.map_congr_left fun p hp=>?_
   obtain⟨j,b,j1,j2,j3,j4,_⟩:=hR.Jk i hi p hp;rw[j3,hR.mr hS2 j4]
 . obtain⟨j,b,j1,j2,j3,j4,j5⟩:=hR.Jk i hi p hp
   exact⟨j,b,j1,j2,j3,(hS2 _ j4).1,j5.grow hF (by rw[hA,hL]) (hR.mr hS2 j4)⟩
 . have hki:=hR.kn i hi
   obtain⟨wi,i1,i2,i3⟩:=hki.dA;exact⟨hki.d',hki.len,by rw[hL];exact hki.lt,wi,by rw[hw];exact i1,hF _ i2,by rw[hA];exact hF _ i3⟩
 . obtain⟨wi,ai,i1,i2,i3,i4,i5,i6⟩:=hR.ob i hi
   exact⟨wi,ai,by rw[hw];exact i1,i2,i3,hF _ i4,hF _ i5,by rw[hA];exact hF _ i6⟩
structure pN(pf:List UInt8->Option Int)(D:eF)(S:List (List UInt8))(f:Int)(q:Q):Prop where
 fQ:D.In q.1.v.x
 dD:q.1.v.dD=16
 cF:q.1.v.cF=24
 root:q.1.v.root=8
 cy:q.1.v.cy=9
 dL:q.1.v.dL=false
 cV:q.1.v.cV=2824
 d:∃ n,q.1.v.d=⟨60000,60,n,-3,-4⟩
 r:∃ n,q.1.v.r=⟨60480,200,n,-5,-6⟩
 cI:q.1.v.cI=f
 Iu:q.1.pf=pf
 comp:q.1.comp=false
 UA:q.1.is=false
 eE:q.1.eE=[24]
 eN:q.2.eN=0
 tO:∀ p l,q.2.dq p=some l->(l,0) ∈ D.fx
 eb:q.2.eb=S
theorem St.mid(h:St pf D S 0 none f q):pN pf D S f q:=by
 obtain⟨ls,l1,_,l3⟩:=h.eE;have hl:=l3 rfl rfl;subst hl;exact⟨h.fQ,h.dD,h.cF,h.root,h.cy,h.dL,h.cV,⟨_,h.dd⟩,⟨_,h.rr⟩,h.cI,h.Iu,h.comp,h.UA rfl rfl,l1,h.eN,h.tO,h.eb⟩
theorem pN.run{D':eF}(h:pN pf D S f q){v:VM}(hv:Rs D' L R v)(hD:∀ z ∈ D.fx,z ∈ D'.fx):pN pf D' S v.cI ({ q.1 with v:=v },q.2) :=
 ⟨hv.fQ,hv.dD,hv.cF,hv.root,hv.cy,hv.dL,hv.cV,⟨_,hv.d⟩,⟨_,hv.r⟩,rfl,h.Iu,h.comp,h.UA,h.eE,h.eN,fun p l e=>hD _ (h.tO p l e),h.eb⟩
theorem pN.go(h:pN pf D S f q){s t:List UInt8}{n:Nat}(hw:Src.dA q.1.src q.1.cM=(s,n))(hd:q.1.src.drop n=t):q.1.dt=s/\pN pf D S (f-1) (Oo.cH q)/\gY (Oo.cH q) t/\Oo.cH q=({ q.1 with cM:=n,v:={ q.1.v with cI:=f-1 } },q.2):=by
 have hn:q.1.next={ q.1 with cM:=n }:=by
  show({ q.1 with cM:=(Src.dA q.1.src q.1.cM).2 }:Rd)=_
  rw[hw]
 have e:Oo.cH q=({ q.1 with cM:=n,v:={ q.1.v with cI:=f-1 } },q.2):=by
  unfold Oo.cH;rw[hn,h.cI]
 refine⟨by show(Src.dA q.1.src q.1.cM).1=s;rw[hw],?_,?_,e⟩
 . rw[e]
   exact { h with cI:=rfl }
 . rw[e]
   exact hd
theorem pN.fail(h:pN pf D S f q)(e:Int):St pf D S 0 none f (Oo.fail q e)/\(Oo.fail q e).1.src=q.1.src/\(Oo.fail q e).1.cM=Src.lL q.1.src q.1.cM/\(Oo.fail q e).1.v.x.cu=q.1.v.x.cu:=by
 obtain⟨nd,hd⟩:=h.d;obtain⟨nr,hr⟩:=h.r
 have hem:Rd.eK q.1.v e={ q.1.v.put (Rd.eW e)with d:=⟨60000,60,0,-3,-4⟩,r:=⟨60480,200,0,-5,-6⟩ }:=by
  rw[El _ _ (by rw[hd];show(0:Int)<=60;decide) (by rw[hr];show(0:Int)<=200;decide),hd,hr]
 have hf:q.1.lM e={ ({ q.1 with v:=Rd.eK q.1.v e }:Rd).oB with comp:=false,eM:=false,dy:=[] }:=by
  unfold Rd.lM;simp only
  rw[if_neg (by rw[h.UA];simp)]
 have hfe:Oo.fail q e=(({ q.1.lM e with eE:=[(q.1.lM e).v.cF] }:Rd).skip,{ q.2 with eN:=0,eH:=[],target:=0 }):=by
  unfold Oo.fail
  have:Oo.reset (q.1.lM e,q.2)=({ q.1.lM e with eE:=[(q.1.lM e).v.cF] },{ q.2 with eN:=0,eH:=[],target:=0 }):=by
   unfold Oo.reset;rw[if_neg (by show ¬ q.2.eN≠0;rw[h.eN];simp)]
  rw[this]
 rw[hfe,hf,hem];refine⟨⟨h.fQ,h.dD,h.cF,h.root,h.cy,h.dL,h.cV,rfl,rfl,h.cI,h.Iu,rfl,rfl,rfl,⟨[],?_,(fun a ha=>by cases ha),fun _ _=>rfl⟩,rfl,fun e=>absurd rfl e,(fun _ _ _ e=>by cases e),rfl,h.tO,fun _ _=>rfl,h.eb⟩,rfl,rfl,rfl⟩
 show [q.1.v.cF]=[]++[24]
 rw[h.cF];rfl
theorem pN.find(h:pN pf D S f q)(s:List UInt8):q.1.v.x.mem.find s q.1.eE=Mem.dv D.ws (cG s):=by
 rw[h.eE];exact nW h.fQ s (ls:=[]) (fun a ha=>by cases ha)
end Fo
namespace Src
theorem BZ(s t:List UInt8)(n:Nat)(h:s.drop n=10 :: t):s.drop (lL s n)=t:=by
 unfold lL;rw[h,if_neg (by show ¬ Lib.indexByte (10 :: t) 10<0;rw[show Lib.indexByte (10 :: t) 10=0 from rfl];decide),show Lib.indexByte (10 :: t) 10=0 from rfl,show n+(0:Int).toNat+1=n+1 from rfl,<- List.drop_drop,h]
 rfl
theorem yT(s:List UInt8)(n:Nat)(h:s.drop n=[]):s.drop (lL s n)=[]:=by
 unfold lL;rw[h,if_pos (by show Lib.indexByte [] 10<0;decide)]
 simp
theorem wH(src s:List UInt8)(a:Nat)(h:d' s=true)(e:src.drop a=10 :: s):dA src a=(s,a+1+s.length)/\src.drop (a+1+s.length)=[]:=by
 have e1:src.drop (a+1)=s:=by rw[<- List.drop_drop,e];rfl
 have hs:skip src a=a+1:=by
  have h1:=qA src s [] (a+1) h (by rw[e1];simp)
  unfold skip at h1 |-;rw[e1]at h1;rw[e]
  show a+(List.takeWhile blank (10 :: s)).length=a+1
  rw[List.takeWhile_cons,if_pos (by decide)]
  simp only[List.length_cons]
  omega
 obtain⟨w1,w2⟩:=xS src s (a+1) h e1;have hs1:skip src (a+1)=a+1:=qA src s [] (a+1) h (by rw[e1];simp)
 refine⟨?_,w2⟩;rw[<- w1];unfold dA;simp only
 rw[hs,hs1]
end Src
namespace Fo
variable {pf:List UInt8->Option Int} {dM:List Act} {TL:List dr} {D:eF} {S:List (List UInt8)} {τ:Nat->Int} {x1:Int} {L R:List Int} {v:VM} {i s h_ f:Int} {q:Q}
def wN(s:Nat):Act:=⟨0,0,0,s,0,false⟩
theorem Eo{x:Sp}(h:D.In x){a n:Int}(hm:(a,n) ∈ D.fx):32<=a/\a+8<=60000:=by
 obtain⟨_,h1,h2,_⟩:=h.fx _ hm;have h1:32<=a:=h1;have h2:a+8<=x.cu:=h2;have:=h.xQ;have o:=h.al.ok;unfold Sp.Ok at o;omega
theorem cm:∀ (l:List Int) {D:eF} (r:Rd),D.In r.v.x->(∀ n ∈ l,dB n)->r.v.x.cu+8*l.length<=60000->∀ b,60000<=b->(Rd.eR l r).1.v.x.mem.cell b=r.v.x.mem.cell b
 | [],D,r,_,_,_,b,_=>rfl
 | n :: l,D,r,h,hl,hr,b,hb=>by
  rw[List.length_cons]at hr;obtain⟨e1,e2,h1⟩:=h.cN n (hl n (by simp)) (by omega)
  obtain⟨r1,hr1⟩:∃ r1:Rd,r1={ r with v:={ r.v with x:=r.v.x.wr [n] } }:=⟨_,rfl⟩;have hx1:r1.v.x=r.v.x.wr [n]:=by rw[hr1]
  have hc:r.cN n=(r1,0):=by
   show((({ r with v:={ r.v with x:=(r.v.x.cN n).1 } }:Rd),(r.v.x.cN n).2):Rd × Int)=_
   rw[e1,hr1]
  have ih:=cm l r1 (by rw[hx1];exact h1) (fun k hk=>hl k (by simp[hk])) (by rw[hx1,e2];omega) b hb
  unfold Rd.eR Rd.bind;rw[hc,if_neg (by simp),ih,hx1]
  show(r.v.x.mem.fk r.v.x.cu [n]).cell b=_
  exact Mem.gU _ _ _ _ (.inr (by simp only[List.length_cons,List.length_nil];omega))
theorem y8(hR:ou pf dM TL D S τ x1)(h:pN pf D S f q)(hv:Rs D [] [] q.1.v){c:Nat}(hc:c<TL.length)(hc2:c<=1000){t:List UInt8}(hp:gY q (gi c++32 :: t))(hf:2<f) :
 ∃ (a:Int) (p:Q),(a,dG D.A c) ∈ D.fx/\Rs D [a] [] p.1.v/\pN pf D S (f-2) p/\gY p t/\fj q p/\p.1.v.x.cu=q.1.v.x.cu:=by
 obtain⟨wo,a,o1,o2,o3,o4,o5,o6⟩:=hR.ob c hc;obtain⟨k1,k2,k3⟩:=oZ c (by omega)
 obtain⟨w1,d1⟩:=Src.mZ q.1.src (gi c) t q.1.cM k1 hp;obtain⟨n1,m1,p1,e1⟩:=h.go w1 d1;obtain⟨u,hu⟩:∃ u,u=Oo.cH q:=⟨_,rfl⟩;rw[<- hu]at m1 p1 e1;have huv:u.1.v={ q.1.v with cI:=f-1 }:=by rw[e1]
 have ha:=Eo h.fQ o6;obtain⟨v0,hv0⟩:∃ v0:VM,v0={ u.1.v with ip:=0,dU:=0,cC:=0,cI:=u.1.v.cI-1 }:=⟨_,rfl⟩;have g0:Rs D [] [] v0:=by rw[hv0,huv];exact { hv with }
 have TF:At v0 0 0 0 (f-2):=by rw[hv0,huv];exact⟨rfl,rfl,rfl,by show f-1-1=f-2;omega⟩
 obtain⟨v2,en,g2,at2⟩:=ye g0 TF o4 o5 (by unfold dB;omega) (by decide)
 have hrun:VM.Bt u.1.v wo.xt (v2,0):=⟨by rw[m1.cI];omega,(v2,0),by rw[<- hv0];exact en,rfl,VM.sJ.stop _ (fun e=>e.2.1 at2.ip)⟩
 obtain⟨x1',x2'⟩:=jT c (by omega)
 have hw:ig (gi c) u (({ u.1 with v:=v2 },u.2),0):=ig.run wo (v2,0) x1' x2' (by rw[m1.find,k3,o1]) m1.comp (by
  unfold Rd.oY;rw[show u.1.v.cell wo.xt=(1003,0) from m1.fQ.cell o4]
  decide +kernel) hrun
 refine⟨a,({ u.1 with v:=v2 },u.2),o6,g2,?_,p1,?_,?_⟩
 . have:=m1.run g2 (fun z hz=>hz)
   rw[at2.cI]at this;exact this
 . intro l R hRR
   refine fH.ok q _ l R h.dL ?_ (by rw[h.cI];omega) (by rw[n1,<- hu];exact hw) (by show v2.cI<q.1.v.cI;rw[at2.cI,h.cI];omega) hRR
   rw[n1];intro e;rw[e]at k1
   cases k1
 . have:=hrun.cu
   rw[huv]at this;exact this
theorem wS(hR:ou pf dM TL D S τ x1)(hA:∀ a ∈ dM,a.n<=65535)(h:pN pf D S f q){c s:Nat}(hc:c<TL.length)(hs:s<5)(hn:TL.length<=60){a:Int}(ha:(a,dG D.A c) ∈ D.fx)(hv:Rs D [a] [] q.1.v){t:List UInt8}
 (hp:gY q ([45,62]++32 :: (dz s++10 :: t))) (hf:700<f) (hr:q.1.v.x.cu+40<=60000) :
 ∃ (D':eF) (S':List (List UInt8)) (p:Q) (e:Int),((ig [45,62] (Oo.cH q) (p,0)/\e=0)\/(TS [45,62] (Oo.cH q) (p,-2049)/\e = -2049))/\ou pf dM TL D' S' τ x1/\pN pf D' S' p.1.v.cI p/\gY p (10 :: t)/\f-640<=p.1.v.cI/\p.1.v.cI<f-1/\p.1.v.x.cu=q.1.v.x.cu+32:=by
 obtain⟨w1,d1⟩:=Src.mZ q.1.src [45,62] _ q.1.cM (by decide) hp
 obtain⟨n1,m1,p1,e1⟩:=h.go w1 d1;obtain⟨u,hu⟩:∃ u,u=Oo.cH q:=⟨_,rfl⟩;rw[<- hu]at m1 p1 e1 |-;have huv:u.1.v={ q.1.v with cI:=f-1 }:=by rw[e1]
 obtain⟨k1,k2,k3,k4⟩:=hU s (by omega)
 obtain⟨w2,d2⟩:=Src.PI u.1.src (dz s) t u.1.cM k1 p1;obtain⟨S',n,s1,s2,s3,s4,_,s6,s7,s8⟩:=nX hR.eb s hs;have hnw:u.1.dt=dz s:=by show(Src.dA u.1.src u.1.cM).1=_;rw[w2]
 obtain⟨r0,hr0⟩:∃ r0:Rd,r0={ u.1 with cM:=u.1.cM+(dz s).length }:=⟨_,rfl⟩
 have hnx:u.1.next=r0:=by
  rw[hr0]
  show({ u.1 with cM:=(Src.dA u.1.src u.1.cM).2 }:Rd)=_
  rw[w2]
 have hsel:Oo.cR u=((r0,{ u.2 with eb:=S' }),n,0):=by
  unfold Oo.cR;rw[jZ hnw k1 k2,if_neg (by simp),hnx,hnw,m1.eb,s1]
 have hxv:r0.v=u.1.v:=by rw[hr0]
 have hx0:r0.v.x=q.1.v.x:=by rw[hxv,huv]
 obtain⟨hx,hhx⟩:∃ hx,hx=q.1.v.x.cu:=⟨_,rfl⟩;have Ip:D.In r0.v.x:=by rw[hx0];exact h.fQ
 have Ga:r0.v.x.cu=hx:=by rw[hx0,hhx]
 have qa:32<=hx:=by rw[hhx];exact h.fQ.cu
 obtain⟨ks,Xv,Yh,Xw⟩:=hR.dD.tok [40,115,101,110,100,41] (by simp)
 obtain⟨ke,Wl,Yf,Wm⟩:=hR.dD.tok [101,120,105,116] (by simp)
 have hpf:r0.pf=pf:=by rw[hr0];exact m1.Iu
 -- the cells
 obtain⟨x2,e2,h2,i2⟩:=kZ [1001] r0 Ip (fun z hz=>by simp only[List.mem_singleton]at hz;subst hz;unfold dB;omega) (by rw[Ga];simp only[List.length_cons,List.length_nil];omega)
 have f2:=cm [1001] r0 Ip (fun z hz=>by simp only[List.mem_singleton]at hz;subst hz;unfold dB;omega) (by rw[Ga];simp only[List.length_cons,List.length_nil];omega)
 rw[e2]at f2;rw[Ga]at h2 i2;have h2:x2.cu=hx+8:=h2;obtain⟨r2,hr2⟩:∃ r2:Rd,r2={ r0 with v:={ r0.v with x:=x2 } }:=⟨_,rfl⟩;rw[<- hr2]at e2 f2;have hx2:r2.v.x=x2:=by rw[hr2]
 have l3:∀ z ∈ [ks,n],dB z:=fun z hz=>by
  simp only[List.mem_cons,List.not_mem_nil,or_false]at hz
  rcases hz with rfl | rfl
  . exact Yh
  . unfold dB;omega
 obtain⟨x3,e3,h3,i3⟩:=kZ [ks,n] r2 (by rw[hx2];exact i2) l3 (by rw[hx2,h2];simp only[List.length_cons,List.length_nil];omega)
 have f3:=cm [ks,n] r2 (by rw[hx2];exact i2) l3 (by rw[hx2,h2];simp only[List.length_cons,List.length_nil];omega)
 rw[e3]at f3;rw[hx2,h2]at h3 i3;have h3:x3.cu=hx+24:=by rw[h3];simp only[List.length_cons,List.length_nil];omega
 obtain⟨r3,hr3⟩:∃ r3:Rd,r3={ r2 with v:={ r2.v with x:=x3 } }:=⟨_,rfl⟩;rw[<- hr3]at e3 f3;have hx3:r3.v.x=x3:=by rw[hr3]
 have l4:∀ z ∈ [ke],dB z:=jR Yf;obtain⟨x4,e4,h4,i4⟩:=kZ [ke] r3 (by rw[hx3];exact i3) l4 (by rw[hx3,h3];simp only[List.length_cons,List.length_nil];omega)
 have f4:=cm [ke] r3 (by rw[hx3];exact i3) l4 (by rw[hx3,h3];simp only[List.length_cons,List.length_nil];omega)
 rw[e4]at f4;rw[hx3,h3]at h4 i4;have h4:x4.cu=hx+32:=by rw[h4];simp only[List.length_cons,List.length_nil];omega
 obtain⟨r4,hr4⟩:∃ r4:Rd,r4={ r3 with v:={ r3.v with x:=x4 } }:=⟨_,rfl⟩;rw[<- hr4]at e4 f4;obtain⟨D4,hD4⟩:∃ D4,D4=(((D.fJ hx [1001]).fJ (hx+8) [ks,n]).fJ (hx+24) [ke]):=⟨_,rfl⟩;rw[<- hD4]at i4;obtain⟨a1,_,a3,a4⟩:=eF.dO [1001] D hx;obtain⟨b1,_,b3,b4⟩:=eF.dO [ks,n] (D.fJ hx [1001]) (hx+8);obtain⟨c1,_,c3,c4⟩:=eF.dO [ke] ((D.fJ hx [1001]).fJ (hx+8) [ks,n]) (hx+24)
 have hfx:∀ z ∈ D.fx,z ∈ D4.fx:=fun z hz=>by
  rw[hD4];exact eF.fI _ _ _ _ (eF.fI _ _ _ _ (eF.fI _ _ _ _ hz))
 have y1:(hx,1001) ∈ D4.fx:=by
  have:=eF.lQ [1001] D hx 0 (by simp)
  rw[hD4];refine eF.fI _ _ _ _ (eF.fI _ _ _ _ ?_);simpa using this
 have y2:(hx+8,ks) ∈ D4.fx:=by
  have:=eF.lQ [ks,n] (D.fJ hx [1001]) (hx+8) 0 (by simp)
  rw[hD4];refine eF.fI _ _ _ _ ?_;simpa using this
 have y3:(hx+8+8,n) ∈ D4.fx:=by
  have:=eF.lQ [ks,n] (D.fJ hx [1001]) (hx+8) 1 (by simp)
  rw[hD4];refine eF.fI _ _ _ _ ?_;simpa using this
 have y4:(hx+8+8+8,ke) ∈ D4.fx:=by
  have:=eF.lQ [ke] ((D.fJ hx [1001]).fJ (hx+8) [ks,n]) (hx+24) 0 (by simp)
  rw[hD4,show hx+8+8+8=hx+24 by omega]
  simpa using this
 have Lo:ou pf dM TL D4 S' τ x1:=hR.ie (by rw[hD4,c1,b1,a1]) (by rw[hD4,c3,b3,a3]) hfx (by rw[hD4,c4,b4,a4]) s2 s8
 have Pf:D4.A=D.A:=by rw[hD4,c1,b1,a1]
 -- the machine that begins
 have Ca:r4.v={ q.1.v with cI:=f-1,x:=x4 }:=by rw[hr4,hr3,hr2,hxv,huv]
 have LS:∀ b,60000<=b->x4.mem.cell b=q.1.v.x.mem.cell b:=fun b hb=>by
  have g4:=f4 b hb;have g3:=f3 b hb;have g2:=f2 b hb;rw[hx3]at g4;rw[hx2]at g3;rw[hx0]at g2;have q4:r4.v.x=x4:=by rw[hr4]
  simp only at g4 g3 g2
  rw[q4]at g4;rw[hx3]at g3;rw[hx2]at g2;rw[g4,g3,g2]
 obtain⟨v4,hv4⟩:∃ v4:VM,v4={ r4.v with ip:=0,dU:=0,cC:=0,cI:=r4.v.cI-1 }:=⟨_,rfl⟩
 have g4:Rs D4 [a] [] v4:=by
  rw[hv4,Ca];exact⟨i4,hv.dD,hv.cF,hv.root,hv.cy,hv.dL,hv.cV,hv.d,hv.r,⟨hv.dl.1,fun j hj=>by show x4.mem.cell _=_;rw[LS _ (by omega)];exact hv.dl.2 j hj⟩,⟨hv.rl.1,fun j hj=>by cases hj⟩⟩
 have at4:At v4 0 0 0 (f-2):=by rw[hv4,Ca];exact⟨rfl,rfl,rfl,by show f-1-1=f-2;omega⟩
 obtain⟨v5,e5,g5,TO⟩:=g4.fX [0] (by decide) (jR (by unfold dB;omega))
 have g5:Rs D4 [a] [0] v5:=g5
 have hdef:v4.fA hx=({ v5 with ip:=hx+8 },0):=by
  unfold VM.fA;rw[at4.ip,e5,if_neg (by simp)]
 obtain⟨v6,hv6⟩:∃ v6:VM,v6={ v5 with ip:=hx+8 }:=⟨_,rfl⟩;rw[<- hv6]at hdef;have g6:Rs D4 [a] [0] v6:=by rw[hv6];exact { g5 with }
 have Vn:=at4.same TO;have Xz:At v6 (hx+8) 0 0 (f-2):=by rw[hv6];exact⟨rfl,Vn.dU,Vn.cC,Vn.cI⟩
 have Xy:VM.jz v4 hx (v6,0):=hdef ▸ VM.jz.colon (g4.cell y1);obtain⟨v7,g7,XB,t7⟩:=g6.step Xz (by omega) y2 (by omega)
 have hsm:(wN s).cZ % 5=s:=Nat.mod_eq_of_lt hs;have hsg:sg S' (wN s).s1=n:=by rw[mq,hsm,s4]
 obtain⟨w8,g8,at8,zq⟩:=Nd Lo (wN s) (by rw[hsm];exact s3) hc (L:=[]) (o:=a) g7 XB (hfx _ Xw) (by rw[hsg];exact y3) (by rw[Pf];exact hfx _ ha)
 have hT:=hR.FN h.fQ;have hab:=Eo h.fQ ha
 -- what comes of it
 have hrun:∃ (vP:VM) (e:Int) (L' R':List Int),VM.sJ (v6,0) (vP,e)/\Rs D4 L' R' vP/\(e=0\/e = -2049)/\f-640<=vP.cI:=by
  cases hw:Ref.dH TL c (wN s).s1 with
  | none =>
   rw[hw]at zq;have zq:VM.jz v7 ks (w8,-2049):=zq;exact⟨w8,-2049,_,_,t7 _ zq (.inr (by show w8.cC<4;rw[at8.cC];decide)) _ (VM.sJ.stop _ (fun e=>absurd e.1 (by show ¬ (-2049:Int)=0;decide))),g8,.inr rfl,by rw[at8.cI];omega⟩
  | some p =>
   rw[hw]at zq;obtain⟨v9,m9,JR⟩:=vO Lo i4.iE.uD hT hA (wN s) (by rw[hsm];exact s3) TL.length (c:Int) (by omega) (by omega) (by omega) p hw [] [0] w8 (hx+8+8+8) 0 0 (f-2-1) a g8 at8 (by unfold dB;omega) (by unfold dB;omega) (by unfold dB;omega) (by decide) (by simp only[List.length_cons,List.length_nil];omega) (by omega) (by omega)
   have zq:VM.jz v7 ks (w8.method (τ p.1.toNat) a):=zq;rw[m9]at zq
   cases hval:val dM TL TL.length (c:Int) (wN s).s1 with
   | none =>
    rw[hval]at JR;obtain⟨z,R',Vj,s',f',z1,z2,z3,z4⟩:=JR;exact⟨z,-2049,_,_,((t7 _ zq).trans z1) (.inr (by show z.cC<4;rw[z3.cC];decide)) _ (VM.sJ.stop _ (fun e=>absurd e.1 (by show ¬ (-2049:Int)=0;decide))),z2,.inr rfl,by rw[z3.cI];omega⟩
   | some m =>
    rw[hval]at JR;obtain⟨z,f',z1,z2,z3,z4⟩:=JR;obtain⟨v11,g11,L4,t11⟩:=z2.step z3 (by omega) y4 (by omega)
    obtain⟨v12,Ma,g12,IH⟩:=MA (R:=[]) (n:=0) g11 L4 (hfx _ Wm);exact⟨v12,0,_,_,(((t7 _ zq).trans z1).trans (t11 _ Ma)) (.inl rfl) _ (VM.sJ.stop _ (fun e=>e.2.1 IH.ip)),g12,.inl rfl,by rw[IH.cI];omega⟩
 obtain⟨vP,e,L',R',hrn,gP,he,TP⟩:=hrun
 have YO:vP.cI<=f-2:=by
  have:=hrn.Bu;have:vP.cI<=v6.cI:=this;rw[Xz.cI]at this;exact this
 have hRR:VM.Bt r4.v hx (vP,e):=⟨by rw[Ca];show 0<f-1;omega,(v6,0),by rw[<- hv4];exact Xy,rfl,hrn⟩
 have zc:=hRR.cu
 have EB:xV r0 [40,115,101,110,100,41] n (r4.vm (vP,e)):=by
  refine .inr ⟨by rw[hr0];exact m1.comp,r0,r2,r3,r4,(vP,e),?_,?_,?_,?_,by rw[Ga];exact hRR,rfl⟩
  . rw[Sp.mK (by rw[hx0];exact h.fQ.al.al)]
    rfl
  . have:Rd.eR [1001] r0=r0.cN 1001:=by
     unfold Rd.eR Rd.bind Rd.eR;split
     . rfl
     . rename_i h0
       have h0:(r0.cN 1001).2=0:=by omega
       rw[<- h0]
    rw[<- this];exact e2
  . unfold Rd.di Rd.xt
    rw[show r2.pf=pf by rw[hr2];exact hpf,Xv]
    exact e3
  . unfold Rd.di Rd.xt
    rw[show r3.pf=pf by rw[hr3,hr2];exact hpf,Wl]
    exact e4
 have IL:gr (cG [45,62])=some 168:=by decide +kernel
 have Md:pN pf D4 S' vP.cI ((r4.vm (vP,e)).1,{ u.2 with eb:=S' }):=by
  have m2:pN pf D S' (f-1) (r0,{ u.2 with eb:=S' }):=by rw[hr0];exact { m1 with eb:=rfl }
  have m3:=m2.run gP hfx
  have:(r4.vm (vP,e)).1={ r0 with v:=vP }:=by
   show({ r4 with v:=vP }:Rd)=_
   rw[hr4,hr3,hr2]
  rw[this];exact m3
 refine⟨D4,S',((r4.vm (vP,e)).1,{ u.2 with eb:=S' }),e,?_,Lo,Md,?_,TP,by show vP.cI<f-1;omega,?_⟩
 . rcases he with rfl | rfl
   . have:=ig.send (s:=[45,62]) (q:=u) (r4.vm (vP,0)) IL (by rw[hsel]) (by rw[hsel];exact EB)
     rw[hsel]at this;exact .inl ⟨this,rfl⟩
   . have:=TS.vy (s:=[45,62]) (q:=u) (r4.vm (vP,-2049)) IL (by rw[hsel]) (by rw[hsel];exact EB)
     rw[hsel]at this;exact .inr ⟨this,rfl⟩
 . show(r4.vm (vP,e)).1.src.drop (r4.vm (vP,e)).1.cM=_
   show r4.src.drop r4.cM=_
   rw[hr4,hr3,hr2,hr0];exact d2
 . show vP.x.cu=_
   have zc:vP.x.cu=r4.v.x.cu:=zc;rw[zc,Ca,<- hhx];exact h4
end Fo
namespace Fo
variable {pf:List UInt8->Option Int} {dM:List Act} {TL:List dr} {D:eF} {S:List (List UInt8)} {τ:Nat->Int} {x1:Int} {L R:List Int} {v:VM} {i s h_ f:Int} {q:Q}
def gb(c s:Nat):List UInt8:=gi c++32 :: ([45,62]++32 :: (dz s++10 :: se))
theorem zk(hB:sK pf D):Mem.dv D.ws (cG se)=none:=by
 rw[show cG se=se by decide]
 unfold Mem.dv;rw[List.find?_eq_none];intro w hw e;have:=List.all_eq_true.1 hB.zr w hw;unfold bZ at this;simp only[Bool.and_eq_true,decide_eq_true_eq]at this e
 exact this.2 e.1
theorem vC(hB:sK pf D)(h:pN pf D S f q)(hp:gY q (10 :: se)\/gY q se)(hf:2<f)(l:Int):∃ p,fH (q,l) (p,-13)/\St pf D S 0 none (f-1) p/\p.1.v.x.cu=q.1.v.x.cu:=by
 obtain⟨n,hw,hd⟩:∃ n,Src.dA q.1.src q.1.cM=(se,n)/\q.1.src.drop n=[]:=by
  rcases hp with hp | hp
  . exact⟨_,Src.wH q.1.src se q.1.cM (by decide) hp⟩
  . exact⟨_,Src.xS q.1.src se q.1.cM (by decide) hp⟩
 obtain⟨n1,m1,p1,e1⟩:=h.go hw hd;obtain⟨u,hu⟩:∃ u,u=Oo.cH q:=⟨_,rfl⟩;rw[<- hu]at m1 p1 e1
 have hb:u.1.v.oj=10:=by
  show(u.1.v.x.mem.cell u.1.v.dD).1=10
  rw[m1.dD,m1.fQ.dD]
 have hbad:TS se u (u,-13):=TS.none_ (by decide +kernel) (by decide +kernel) (by rw[m1.find];exact zk hB) (by rw[hb];decide +kernel)
 obtain⟨g1,g2,g3,g4⟩:=m1.fail (-13);obtain⟨z,hz⟩:∃ z,z=Oo.fail u (-13):=⟨_,rfl⟩;rw[<- hz]at g1 g2 g3 g4
 have hdz:z.1.src.drop z.1.cM=[]:=by
  rw[g2,g3];exact Src.yT _ _ p1
 have hwz:=Src.xT z.1.src z.1.cM hdz
 have hnx:z.1.next=z.1:=by
  show({ z.1 with cM:=(Src.dA z.1.src z.1.cM).2 }:Rd)=_
  rw[hwz]
 refine⟨z,fH.TT q u l (-13) (z,-13) h.dL (by rw[n1];decide) (by rw[h.cI];omega) (by rw[n1,<- hu];exact hbad) (by decide) (by decide) (by decide) (by rw[<- hz,g1.cI,h.cI];omega) ?_,g1,?_⟩
 . rw[<- hz]
   have:=fH.done z (-13) g1.dL (by show(Src.dA z.1.src z.1.cM).1=[];rw[hwz])
   rw[hnx]at this;exact this
 . rw[g4,e1]
theorem CZ(hR:ou pf dM TL D S τ x1)(hA:∀ a ∈ dM,a.n<=65535)(h:St pf D S 0 none f q){c s:Nat}(hc:c<TL.length)(hc2:c<=1000)(hs:s<5)(hn:TL.length<=60)(hp:gY q (gb c s))(hf:800<f)(hr:q.1.v.x.cu+40<=60000) :
 ∃ (D':eF) (S':List (List UInt8)) (f':Int) (p:Q) (l:Int),fH (q,0) (p,l)/\St pf D' S' 0 none f' p/\ou pf dM TL D' S' τ x1/\f-650<=f'/\p.1.v.x.cu=q.1.v.x.cu+32:=by
 have hrs:Rs D [] [] q.1.v:=⟨h.fQ,h.dD,h.cF,h.root,h.cy,h.dL,h.cV,h.dd,h.rr,⟨by decide,fun i hi=>by cases hi⟩,by decide,fun i hi=>by cases hi⟩
 obtain⟨a,p1,a1,a2,a3,a4,a5,a6⟩:=y8 hR h.mid hrs hc hc2 hp (by omega)
 obtain⟨D',S',p2,e,b1,b2,b3,b4,b5,b6,b7⟩:=wS hR hA a3 hc hs hn a1 a2 a4 (by omega) (by rw[a6];exact hr)
 obtain⟨w1,d1⟩:=Src.mZ p1.1.src [45,62] _ p1.1.cM (by decide) a4
 have hn1:p1.1.dt=[45,62]:=by show(Src.dA p1.1.src p1.1.cM).1=_;rw[w1]
 rcases b1 with⟨hw,rfl⟩ | ⟨hw,rfl⟩
 . obtain⟨p3,t3,s3,h3⟩:=vC b2.dD b3 (.inl b4) (by omega) 0
   refine⟨D',S',_,p3,-13,a5 0 _ (fH.ok p1 p2 0 _ a3.dL (by rw[hn1];decide) (by rw[a3.cI];omega) (by rw[hn1];exact hw) (by rw[a3.cI];omega) t3),s3,b2,by omega,by rw[h3,b7,a6]⟩
 . obtain⟨g1,g2,g3,g4⟩:=b3.fail (-2049)
   have hpz:gY (Oo.fail p2 (-2049)) se:=by
    show(Oo.fail p2 (-2049)).1.src.drop (Oo.fail p2 (-2049)).1.cM=se
    rw[g2,g3];exact Src.BZ _ _ _ b4
   obtain⟨p3,t3,s3,h3⟩:=vC b2.dD g1.mid (.inr hpz) (by omega) (-2049)
   refine⟨D',S',_,p3,-13,a5 0 _ (fH.TT p1 p2 0 (-2049) _ a3.dL (by rw[hn1];decide) (by rw[a3.cI];omega) (by rw[hn1];exact hw) (by decide) (by decide) (by decide) (by rw[g1.cI,a3.cI];omega) t3),s3,b2,by omega,by rw[h3,g4,b7,a6]⟩
end Fo
end Go.Proofs.dS
