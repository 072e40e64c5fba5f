/- A part of EarlyG. No condition. -/
import Derived.Test.YthhfkhhhclmimaaGreatDoorM45
set_option linter.unusedVariables false
set_option linter.unusedSimpArgs false
open Go.Proofs.Tryz
set_option maxRecDepth 10000
set_option maxHeartbeats 4000000
namespace Go.Proofs.dS
open Go Go.RowKit Go.Proofs.K Go.Proofs.tI
theorem yb(G:Gk)(X:Nat->Prop)(w:World)(r:Rd)(h:ej w G X r):Calls prog 53 #[cD G.K.db,I_ 0] w (PR G X w (r.vm (r.v.fE 0))) :=
 (LZ G.K w r.v 0 h.fv).mono fun _ _ ⟨a,b,k⟩=>⟨a,X,h.vm b k,h.uc k⟩
theorem IM(G:Gk)(X:Nat->Prop)(w:World)(r:Rd)(h:ej w G X r):Calls prog 53 #[cD G.K.rb,I_ 0] w (PR G X w (r.vm (r.v.dw 0))) :=
 (L0 G.K w r.v 0 h.fv).mono fun _ _ ⟨a,b,k⟩=>⟨a,X,h.vm b k,h.uc k⟩
theorem IN(n:Int)(h:jD n):(Lib.itoa n).length<=20:=TI.Mh n h.1 h.2
theorem MQ(w:World):(binOp BinOp.neq 1 Value.nilFunc Value.nilFunc).run prog w=.ok (.bool false) w:=by rfl
theorem MR(w:World)(k:Nat)(b a:Array Value):(binOp BinOp.neq 1 (Value.func (.func k) b a) Value.nilFunc).run prog w=.ok (.bool true) w:=by rfl
def F5{α:Type}(E:Mm α)(RE:World->(Nat->Prop)->α->Prop)(G:Gk):Prop :=
 (G.reset=.nilFunc/\∀ q,E.reset q=q)\/∃ k first cap,G.reset=.func (.func k) first cap/\Enters k/\∀ w Z q,RJ RE G w Z q->Calls Tryz.prog k (first++cap) w (Qa RE G Z w (E.reset q))
theorem Qb{b:Type}{E:Mm b}{a:World->(Nat->Prop)->b->Prop}{G:Gk}(o:tC E a G)(w:World)(Z:Nat->Prop)(q:Rd × b)(d:RJ a G w Z q) :
 ∃ g,w.cell? ⟨G.ob,1,none⟩=some (cD g)/\Calls prog 87 #[cD g] w (Qa a G Z w (q.1.skip,q.2)):=by
 obtain⟨X,Y,c,h,i,j⟩:=d.parts;obtain⟨g,m,k⟩:=P' G X w q.1 c;exact⟨g,m,k.mono fun e w' ⟨l,p,n,f⟩=>⟨l,RJ.of o d c h i j n f⟩⟩
theorem Qc{α:Type}{E:Mm α}{RE:World->(Nat->Prop)->α->Prop}{G:Gk}(ok:tC E RE G)(rs:F5 E RE G)(w:World)(Z:Nat->Prop)(q:Rd × α)(e:Int)(hx:jD e)(hz:RJ RE G w Z q) :
 Calls Tryz.prog 34 #[.pointer (some ⟨G.ob,0,none⟩),.int .i64 e] w (Qa RE G Z w (E.fail q e)):=by
 obtain⟨r,x⟩:=q;obtain⟨X,Y,h1,h2,h3,h4⟩:=hz.parts;have hgl:Gl w X:=⟨hz.gl.1,fun g hg e=>hz.gl.2 g hg (h4 g (.inl e))⟩;have HJ:=h_ fun (w':World) (X':Nat->Prop) (r':Rd) (hr:ej w' G X' r') (ev:ef w X w' X')=>RJ.of ok hz h1 h2 h3 h4 hr ev;have QP:=h_ fun V Z' (q:Rd × α) (hV:RJ RE G V Z' q)=>Qb ok V Z' q hV;have hfl:E.fail (r,x) e=((E.reset (r.lM e,x)).1.skip,(E.reset (r.lM e,x)).2):=rfl;have Wp:r.lM e={ (if r.is then { ({ r with v:=Rd.eK r.v e }:Rd).nU r.cu r.v.cF r.cF with ea:=Wd.none } else { r with v:=Rd.eK r.v e }).oB with comp:=false,eM:=false,dy:=[] }:=rfl;have RS:=h_ rs;have OK:=h_ ok;generalize E.fail (r,x) e=Q at hfl |-;have HQ:=h_ hfl;clear hz h2 h3 h4 ok rs hfl;have Vp:=h_ Wp;clear Wp;have HF:=h_ fun V (hV:xM V)=>Bq e hx.1 hx.2 V hV;have hlen:=IN e hx;have hst:Value.string (⟨#[63]⟩++⟨(Lib.itoa e).toArray⟩++⟨#[10]⟩)=.string ⟨(Rd.eW e).toArray⟩:=by
  unfold Rd.eW;congr 1
 have hel:(Rd.eW e).length<=4611686018427387904:=by unfold Rd.eW;simp;omega
 have HP:=h_ fun V Y (hV:ej V G Y r)=>Sv G Y V r (Rd.eW e) hel hV;have HD:=h_ fun V Y (hV:ej V G Y (r.pR (Rd.eW e)))=>yb G Y V _ hV;have TZ:=h_ fun V Y (hV:ej V G Y ((r.pR (Rd.eW e)).vm ((r.pR (Rd.eW e)).v.fE 0)).1)=>IM G Y V _ hV;have hfin:(((r.pR (Rd.eW e)).vm ((r.pR (Rd.eW e)).v.fE 0)).1.vm (((r.pR (Rd.eW e)).vm ((r.pR (Rd.eW e)).v.fE 0)).1.v.dw 0)).1={ r with v:=Rd.eK r.v e }:=rfl;generalize hq2:(((r.pR (Rd.eW e)).vm ((r.pR (Rd.eW e)).v.fE 0)).1.vm (((r.pR (Rd.eW e)).vm ((r.pR (Rd.eW e)).v.fE 0)).1.v.dw 0))=q2 at TZ hfin;clear hq2;obtain⟨r3,e3⟩:=q2;simp only at hfin
 subst hfin;generalize ((r.pR (Rd.eW e)).vm ((r.pR (Rd.eW e)).v.fE 0))=q1 at HD TZ;obtain⟨r2,e2⟩:=q1;simp only at TZ;generalize (r.pR (Rd.eW e))=r1 at HP HD;generalize Rd.eW e=et at HP hst;generalize Lib.itoa e=tt at HF hlen hst;have HST:=h_ hst;have Tz:=h_ hgl;have R0:=h_ h1;have E0:=h_ (ef.refl w X);have o0:=R0.out.o0;have hm1:¬ 9223372036854775807<1+tt.length:=by omega
 have hm2:¬ 9223372036854775807<1+tt.length+1:=by omega
 clear hst hlen hel;go_enter Tryz.func34,Tryz.ntmps34;go_wp2_with fail
 go_region_held3 (fun w'=>w'.cell? ⟨G.ob,0,none⟩=some (.pointer (some ⟨G.K.mb,0,none⟩)))
  (first | go_keep | exact t0)
  (first
    | (go_at_call 67;refine(HF.out w.drew (Tz.out.1.cL (cq.drew _ _))).mono ?_;rintro e' w8 ⟨rfl,k8⟩;dsimp only;have t8:=k8.cell (show w.drew.cell? ⟨G.ob,0,none⟩=_ from o0) id)
    | (go_at_call 86;(first | rw[HST.out] | skip);refine(HP.out w8 X (R0.out.cL ((fw w).trans k8))).mono ?_;rintro e' w1 ⟨rfl,X1,r1',k1⟩;dsimp only;have t0:=r1'.o0))
 have R1:=h_ r1';have E1:=h_ (E0.out.trans ((ef.kt ((fw w).trans k8)).trans k1));clear r1' k1 k8 t0 t8 HF HP h1 hm1 hm2 HST hgl hx;try clear o0
 have o0:=R1.out.o0;have v1:=R1.out.v1;go_wp2_with fail;refine ir (HD.out _ _ R1.out) E1 ?_;intro w2 X2 R2 E2;try clear o0;try clear v1
 have o0:=R2.out.o0;have v2:=R2.out.v2;go_wp2_with fail;refine ir (TZ.out _ _ R2.out) E2 ?_;intro w3 X3 R3 E3;try clear o0;try clear v1;try clear v2
 have Ef:w3.cell? ⟨G.ob,16,none⟩=some (.bool r.is):=R3.out.Ef;clear HD TZ;have IP:=Vp.out;cases hi:r.is with
 | false =>
  rw[hi]at Ef;rw[if_neg (by rw[hi];simp)]at IP;have HU:=h_ IP;clear Vp IP hi;generalize ({ r with v:=Rd.eK r.v e }:Rd)=u at R3 HU;have HK:=h_ (ue G _ _ _ R3.out);go_wp2_with fail;refine ir (HK.out) E3 ?_;intro w4 X4 R4 E4;try clear o0;try clear Ef;try clear v1;try clear v2
  have o4:=R4.out.o4;have o5:=R4.out.o5;obtain⟨a3,c3,o3⟩:=R4.out.o3;have f4:=R4.out.er 4;have f5:=R4.out.er 5;have f3:=R4.out.er 3;have ks:=fU w4 G.ob 4 5 3 (.bool false) (.bool false) (.slice none 0 0);have RM:=h_ (R4.out.rN (r':=r.lM e) ks (fun D hc=>by rw[HU.out];exact cz (cz (cz hc _) _) _) (by rw[HU.out];exact⟨rfl,rfl,rfl,rfl,rfl,rfl⟩) (by rw[HU.out];exact { R4.out.ok with dy:=Nat.zero_le _ }));have EM:=h_ (E4.out.trans (R4.out.pe ks));obtain⟨ZM,jm,em⟩:=HJ.out _ _ _ RM.out EM.out;have JM:=h_ jm;have EZ:=h_ em;have c19:w4.cell? ⟨G.ob,19,none⟩=some G.reset:=R4.out.Wo;have HM:=h_ (show(((w4.setCell ⟨G.ob,4,none⟩ (.bool false)).setCell ⟨G.ob,5,none⟩ (.bool false)).setCell ⟨G.ob,3,none⟩ (.slice none 0 0))=_ from rfl);clear jm em ks RM EM HJ HU HK;rcases RS.out with⟨MS,hid⟩ | ⟨k,first,cap,MS,hent,hcon⟩
  . rw[MS]at c19
    have Vq:=h_ (HQ.out.trans (by rw[hid]));have hnn:=MQ;clear MS hid RS HQ;rw[<- HM.out]at JM;obtain⟨gq,c1,hsk⟩:=QP.out _ _ _ JM.out;have HS:=h_ hsk;clear hsk QP HM;go_wp2_with fail;refine HS.out.mono ?_;rintro e' wF ⟨rfl,ZF,jF,kF⟩;have JF:=h_ jF;have EF:=h_ (EZ.out.trans kF);clear jF kF;go_wp2_with fail;go_end0;rw[Vq.out];exact⟨rfl,_,JF.out,EF.out⟩
  . rw[MS]at c19
    have hnf:=MR;have T0:∀ (args:Array Value) (w:World),(callFunc k args).run Tryz.prog w=.ok (.enter k args) w:=hent;have HC:=h_ (hcon _ _ _ JM.out);clear MS hent hcon RS HM;go_wp2_with fail;refine HC.out.mono ?_;rintro e' wE ⟨rfl,ZE,jE,kE⟩;have JE:=h_ jE;have EE:=h_ (EZ.out.trans kE);obtain⟨gq,c1,hsk⟩:=QP.out _ _ _ JE.out;have HS:=h_ hsk;clear hsk QP jE kE;go_wp2_with fail;refine HS.out.mono ?_;rintro e' wF ⟨rfl,ZF,jF,kF⟩;have JF:=h_ jF;have EF:=h_ (EE.out.trans kF);clear jF kF;go_wp2_with fail;go_end0;rw[HQ.out];exact⟨rfl,_,JF.out,EF.out⟩
 | true =>
  rw[hi]at Ef;rw[if_pos hi]at IP;have Sx:=h_ IP;have hb:({ r with v:=Rd.eK r.v e }:Rd).nU r.cu r.v.cF r.cF=(Rd.setCell (({ r with v:=Rd.eK r.v e }:Rd).vm ((Rd.eK r.v e).fB ((Rd.eK r.v e).x.fN r.cu))).1 r.v.cF r.cF).1:=rfl;rw[hb]at Sx;have Wq:=h_ fun V Y (hV:ej V G Y { r with v:=Rd.eK r.v e })=>P8 G Y V _ r.cu hV;have MG:w3.cell? ⟨G.ob,14,none⟩=some (.int .i64 r.cu):=R3.out.MG;have II:w3.cell? ⟨G.ob,15,none⟩=some (.int .i64 r.cF):=R3.out.II;have hl1:(({ r with v:=Rd.eK r.v e }:Rd).vm ((Rd.eK r.v e).fB ((Rd.eK r.v e).x.fN r.cu))).1.v.cF=r.v.cF:=rfl;have hl2:(({ r with v:=Rd.eK r.v e }:Rd).vm ((Rd.eK r.v e).fB ((Rd.eK r.v e).x.fN r.cu))).1.cF=r.cF:=rfl;generalize ({ r with v:=Rd.eK r.v e }:Rd).vm ((Rd.eK r.v e).fB ((Rd.eK r.v e).x.fN r.cu))=p4 at Sx Wq hl1 hl2;obtain⟨r4,e4⟩:=p4;simp only at Sx hl1 hl2;have Wr:=h_ fun V Y (hV:ej V G Y r4)=>vQ G Y V r4 r.v.cF r.cF hV;generalize r4.setCell r.v.cF r.cF=p5 at Sx Wr;obtain⟨r5,e5⟩:=p5;simp only at Sx;have HL:=h_ (And.intro hl1 hl2);clear Vp IP hi hb hl1 hl2;have o0:=R3.out.o0;have v0:=R3.out.v0;go_wp2_with fail;go_still_tail 12,(by kernel_rfl);try change wpList _ _ _ _ _ w3.drew
  have R4:=h_ (R3.out.cL (fw w3));have E4:=h_ (E3.out.trans (ef.kt (fw w3)));try clear o0;try clear o3;try clear o4;try clear o5;try clear MG;try clear II;try clear Ef;try clear v0;try clear v1;try clear v2
  generalize w3.drew=w4 at R4 E4 |-;go_wp2_with fail;refine ir (Wq.out _ _ R4.out) E4 ?_;intro w5 X5 R5 E5;try clear o0;try clear o3;try clear o4;try clear o5;try clear MG;try clear II;try clear Ef;try clear v0;try clear v1;try clear v2
  have o0:=R5.out.o0;have v0:=R5.out.v0;have vs:=R5.out.vs;have v8:w5.cell? ⟨G.K.mb,8,none⟩=some (.int .i64 r.v.cF):=by rw[R5.out.v8,HL.out.1]
  have II:w5.cell? ⟨G.ob,15,none⟩=some (.int .i64 r.cF):=by rw[R5.out.II,HL.out.2]
  go_wp2_with fail;go_still_tail 22,(by kernel_rfl);try change wpList _ _ _ _ _ w5.drew
  have R6:=h_ (R5.out.cL (fw w5));have E6:=h_ (E5.out.trans (ef.kt (fw w5)));try clear o0;try clear o3;try clear o4;try clear o5;try clear MG;try clear II;try clear Ef;try clear v0;try clear v1;try clear v2;try clear v8;try clear vs
  generalize w5.drew=w6 at R6 E6 |-;go_wp2_with fail;refine ir (Wr.out _ _ R6.out) E6 ?_;intro w7 X7 R7 E7;try clear o0;try clear o3;try clear o4;try clear o5;try clear MG;try clear II;try clear Ef;try clear v0;try clear v1;try clear v2;try clear v8;try clear vs
  have S8:=R7.out.S8;have S9:=R7.out.S9;have S':=R7.out.S';have Ta:=R7.out.Ta;have f10:=R7.out.er 10;have f11:=R7.out.er 11;have f12:=R7.out.er 12;have f13:=R7.out.er 13;have ks:=kQ w7 G.ob 10 11 12 13 (.int .i64 0) (.int .i64 0) (.int .i64 0) (.string ⟨#[]⟩);have R8:=h_ (R7.out.mE (r':={ r5 with ea:=Wd.none }) ks (fun D hc=>cz (cz (cz (cz hc _) _) _) _) ⟨rfl,rfl,rfl,rfl,rfl,rfl⟩ { R7.out.ok with BK:=by show(0:Int)<=0;decide,BL:=by show(0:Int)<=_;decide });have E8:=h_ (E7.out.trans (R7.out.pe ks));have HU:=h_ Sx.out;generalize ({ r5 with ea:=Wd.none }:Rd)=u at R8 HU;have HK:=h_ (ue G _ _ _ R8.out);clear ks Sx;go_wp2_with fail;try clear o0;try clear o3;try clear o4;try clear o5;try clear S8;try clear S9;try clear S';try clear Ta;try clear MG;try clear II;try clear Ef;try clear v0;try clear v1;try clear v2;try clear v8;try clear vs
  refine ir (HK.out) E8 ?_;intro w9 X9 R9 E9;try clear o0;try clear o3;try clear o4;try clear o5;try clear S8;try clear S9;try clear S';try clear Ta;try clear MG;try clear II;try clear Ef;try clear v0;try clear v1;try clear v2;try clear v8;try clear vs
  have o4:=R9.out.o4;have o5:=R9.out.o5;obtain⟨a3,c3,o3⟩:=R9.out.o3;have f4:=R9.out.er 4;have f5:=R9.out.er 5;have f3:=R9.out.er 3;have ks:=fU w9 G.ob 4 5 3 (.bool false) (.bool false) (.slice none 0 0);have RM:=h_ (R9.out.rN (r':=r.lM e) ks (fun D hc=>by rw[HU.out];exact cz (cz (cz hc _) _) _) (by rw[HU.out];exact⟨rfl,rfl,rfl,rfl,rfl,rfl⟩) (by rw[HU.out];exact { R9.out.ok with dy:=Nat.zero_le _ }));have EM:=h_ (E9.out.trans (R9.out.pe ks));obtain⟨ZM,jm,em⟩:=HJ.out _ _ _ RM.out EM.out;have JM:=h_ jm;have EZ:=h_ em;have c19:w9.cell? ⟨G.ob,19,none⟩=some G.reset:=R9.out.Wo;have HM:=h_ (show(((w9.setCell ⟨G.ob,4,none⟩ (.bool false)).setCell ⟨G.ob,5,none⟩ (.bool false)).setCell ⟨G.ob,3,none⟩ (.slice none 0 0))=_ from rfl);clear jm em ks RM EM HJ HU HK;rcases RS.out with⟨MS,hid⟩ | ⟨k,first,cap,MS,hent,hcon⟩
  . rw[MS]at c19
    have Vq:=h_ (HQ.out.trans (by rw[hid]));have hnn:=MQ;clear MS hid RS HQ;rw[<- HM.out]at JM;obtain⟨gq,c1,hsk⟩:=QP.out _ _ _ JM.out;have HS:=h_ hsk;clear hsk QP HM;go_wp2_with fail;refine HS.out.mono ?_;rintro e' wF ⟨rfl,ZF,jF,kF⟩;have JF:=h_ jF;have EF:=h_ (EZ.out.trans kF);clear jF kF;go_wp2_with fail;go_end0;rw[Vq.out];exact⟨rfl,_,JF.out,EF.out⟩
  . rw[MS]at c19
    have hnf:=MR;have T0:∀ (args:Array Value) (w:World),(callFunc k args).run Tryz.prog w=.ok (.enter k args) w:=hent;have HC:=h_ (hcon _ _ _ JM.out);clear MS hent hcon RS HM;go_wp2_with fail;refine HC.out.mono ?_;rintro e' wE ⟨rfl,ZE,jE,kE⟩;have JE:=h_ jE;have EE:=h_ (EZ.out.trans kE);obtain⟨gq,c1,hsk⟩:=QP.out _ _ _ JE.out;have HS:=h_ hsk;clear hsk QP jE kE;go_wp2_with fail;refine HS.out.mono ?_;rintro e' wF ⟨rfl,ZF,jF,kF⟩;have JF:=h_ jF;have EF:=h_ (EE.out.trans kF);clear jF kF;go_wp2_with fail;go_end0;rw[HQ.out];exact⟨rfl,_,JF.out,EF.out⟩
theorem IQ(r:Rd):r.dt.length<=r.src.length:=by
 unfold Rd.dt Src.dA;simp only;refine Nat.le_trans (List.takeWhile_sublist _).length_le ?_;rw[List.length_drop];omega
section
variable {α:Type} {E:Mm α} {RE:World->(Nat->Prop)->α->Prop} {G:Gk}
theorem Qd(n:tC E RE G)(w:World)(Z:Nat->Prop)(q:Rd × α)(c:RJ RE G w Z q) :
 ∃ g,w.cell? ⟨G.ob,1,none⟩=some (cD g)/\Calls prog 76 #[cD g] w fun e w'=>e=.returned (S_ q.1.dt)/\∃ a,RJ RE G w' a (q.1.next,q.2)/\ef w Z w' a:=by
 obtain⟨X,Y,b,f,h,i⟩:=c.parts;obtain⟨g,l,j⟩:=zy G X w q.1 b;exact⟨g,l,j.mono fun e w' ⟨k,o,m,d⟩=>⟨k,RJ.of n c b f h i m d⟩⟩
theorem zA(i:tC E RE G)(w:World)(Z:Nat->Prop)(q:Rd × α)(n:Int)(g : -9223372036854775808<=n)(h:n<=9223372036854775807)(c:RJ RE G w Z q) :
 ∃ b,RJ RE G (w.setCell ⟨G.K.mb,10,none⟩ (I_ n)) b ({ q.1 with v:={ q.1.v with cI:=n } },q.2)/\ef w Z (w.setCell ⟨G.K.mb,10,none⟩ (I_ n)) b:=by
 obtain⟨X,Y,a,d,e,f⟩:=c.parts;have k:cq G.K.ey w (w.setCell ⟨G.K.mb,10,none⟩ (I_ n)):=gW G.K (cq.setCell _ _ _ (fun _=>rfl));exact RJ.of i c a d e f (a.vm (a.fv.Fz n g h) k) (a.uc k)
theorem RJ.rd{w:World}{Z:Nat->Prop}{q:Rd × α}(h:RJ RE G w Z q):∃ X,ej w G X q.1:=h.parts.elim fun X h=>h.elim fun _ h=>⟨X,h.1⟩
theorem IS(l:tC E RE G)(w a:World)(Z:Nat->Prop)(q:Rd × α)(g:Nat)(t:List UInt8)(d:RJ RE G w Z q)(k:K_ w a)(i:w.heap.size<=g)(m:jB a g t 0)(j:t.length<=1000000) :
 ∃ b,RJ RE G (a.setCell ⟨G.ob,1,none⟩ (cD g)) b (q.1.again t,q.2)/\ef w Z (a.setCell ⟨G.ob,1,none⟩ (cD g)) b:=by
 obtain⟨X,Y,c,e,f,h⟩:=d.parts;have:=c.MH k i m j;exact RJ.of l d c e f h this.1 this.2
end
section
variable (G:Gk) (X:Nat->Prop) (w:World) (r:Rd)
theorem BQ(N:r.find.2.2=0)(h:ej w G X r):Calls prog 271 #[cD G.ob] w (MD Wd.val G X w r.find):=by
 have y:=h_ fun V (hV:ej V G X r)=>ud G X V r hV
 have t:r.find=if r.name.2.2≠0 then(r.next,Wd.none,r.name.2.2)else
  match r.v.x.mem.find r.name.2.1 r.eE with
  | some w=>(r.next,w,0)
  | none=>(r.next,Wd.none,-13):=rfl
 have aa:=h.ok.eE;have D:r.name.2.1.length<=31:=by
  unfold Rd.name Rd.gH;simp only;split
  . simp
  . rename_i l;simp at l;exact l.2
 have O:r.name.1=r.next:=rfl;generalize r.find=ai at t N |-;generalize r.name=ah at y t D O;obtain⟨r1,s,e1⟩:=ah;simp only at O t D;subst O;unfold MD at y;simp only at y;have U:=h_ h.zw;have R0:=h_ (h.cL (dR w (.cells #[I_ 0,I_ 0,I_ 0,.string ⟨#[]⟩] 53)));have E0:=h_ (ef.refl (w.alloc (.cells #[I_ 0,I_ 0,I_ 0,.string ⟨#[]⟩] 53)) X);replace y:=h_ (y.out _ R0.out);have T:=h_ N;clear h N;by_cases l:e1=0
 . subst l
   rw[if_neg (by simp)]at t;have u:=h_ t;have I:=h_ aa;have ae:=h_ D;have ab:r.next.eE=r.eE:=rfl;have ad:r.next.v=r.v:=rfl;rw[<- ab]at I u;rw[<- ad]at u;clear t aa D ab ad;generalize r.next=r at y u I;go_enter func271,ntmps271;go_wp2_with fail;refine ir (y.out) E0 ?_;intro w1 X1 z E1
   skip
   obtain⟨F,H,L,ac⟩:=z.out.iG;have af:=h_ ac;have J:=z.out.o0;have Q:=z.out.v0;have R:=z.out.vs;obtain⟨ak,aj,al,_⟩:=z.out.sV;obtain⟨a,ag⟩:∃ a,a=w1:=⟨_,rfl⟩;subst ag;have C:=h_ fun V (k:K_ a V)=>FW G.K V r.v s F H r.eE (by have:=ae.out;omega) (af.out V k) I.out (z.out.fv.cL k);clear ac;cases M:r.v.x.mem.find s r.eE with
   | none =>
    rw[M]at u;have l:=T.out;rw[u.out]at l;exact absurd (show(-13:Int)=0 from l) (by decide)
   | some d =>
    rw[M]at C u;clear M;obtain⟨n,q,o,p⟩:=d;go_upto_region 4 with fail
    go_cut [6,7] (fun v6 v7 wx=>∃ g:Nat,v6=cD g/\v7=.bool true/\eU g n q o p wx/\K_ a wx)
    case first =>
     go_region_held3 (fun w'=>C_ w' G.ob 0=some (cD G.K.mb)/\C_ w' G.ob 2=some (.slice F r.eE.length H)/\C_ w' G.K.mb 0=some (cD G.K.s)/\C_ w' G.K.s 0=some (cD G.K.b))
      (first | go_keep)
      (first
        | (go_at_call 42;refine(C.out (a.alloc (.cells #[I_ 0,I_ 0,I_ 0,.string ⟨#[]⟩] 53)).drew ((dR a (.cells #[I_ 0,I_ 0,I_ 0,.string ⟨#[]⟩] 53)).trans (cq.drew _ _))).mono ?_;rintro e c ⟨rfl,E⟩;dsimp only[ot,Wd.val]
           have f:=((dR a (.cells #[I_ 0,I_ 0,I_ 0,.string ⟨#[]⟩] 53)).trans (fw _)).trans E;have m:=E.heap (show((a.alloc (.cells #[I_ 0,I_ 0,I_ 0,.string ⟨#[]⟩] 53)).drew).heap[a.heap.size]?=_ from cx a _) id;have W:C_ c G.ob 0=some (cD G.K.mb):=f.cell J id;have e2:C_ c G.ob 2=some (.slice F r.eE.length H):=f.cell L id;have Y:C_ c G.K.mb 0=some (cD G.K.s):=f.cell Q id;have Z:C_ c G.K.s 0=some (cD G.K.b):=f.cell R id;have z0:C_ c a.heap.size 0=some (I_ 0):=cp m rfl;have z1:C_ c a.heap.size 1=some (I_ 0):=cp m rfl;have z2:C_ c a.heap.size 2=some (I_ 0):=cp m rfl;have z3:C_ c a.heap.size 3=some (.string ⟨#[]⟩):=cp m rfl;have q0:=cB (i:=0) m;have q1:=cB (i:=1) m;have q2:=cB (i:=2) m;have q3:=cB (i:=3) m;have n1:a.heap.size≠G.ob:=by omega
           have n2:a.heap.size≠G.K.mb:=by omega
           have n3:a.heap.size≠G.K.s:=by omega
           have am:G.ob≠a.heap.size:=by omega
           have an:G.K.mb≠a.heap.size:=by omega
           have ao:G.K.s≠a.heap.size:=by omega)
        | (go_at_call 42;refine(C.out a.drew (cq.drew _ _)).mono ?_;rintro e c ⟨rfl,E⟩;dsimp only[ot,Wd.val]
           have f:=(fw a).trans E;have W:C_ c G.ob 0=some (cD G.K.mb):=f.cell J id;have e2:C_ c G.ob 2=some (.slice F r.eE.length H):=f.cell L id;have Y:C_ c G.K.mb 0=some (cD G.K.s):=f.cell Q id;have Z:C_ c G.K.s 0=some (cD G.K.b):=f.cell R id;have l1:=World.block_lt_of_cell? c _ W;have l2:=World.block_lt_of_cell? c _ Y
           have l3:=World.block_lt_of_cell? c _ Z))
     all_goals
      go_wp2_with fail;go_meet;refine⟨_,rfl,rfl,?_⟩
      first
       | (have A:=lI (g:=a.heap.size) m (I_ n) (I_ q) (I_ o) (S_ p)
          have kB:=ei f a.heap.size (I_ n) (I_ q) (I_ o) (S_ p) (Nat.le_refl _)
          exact⟨A,kB⟩)
       | (have hA:=cx c (.cells #[(I_ n),(I_ q),(I_ o),(S_ p)] 53)
          have kA:=f.trans (dR c (.cells #[(I_ n),(I_ q),(I_ o),(S_ p)] 53))
          exact⟨hA,kA⟩)
    case rest =>
     obtain⟨g,rfl,rfl,B,P⟩:=hcut;have x0:C_ wc g 0=some (I_ n):=cp B rfl;have x1:C_ wc g 1=some (I_ q):=cp B rfl;have x2:C_ wc g 2=some (I_ o):=cp B rfl;have x3:C_ wc g 3=some (S_ p):=cp B rfl;have R2:=h_ (z.out.cL P);have S:=h_ (E1.out.trans (ef.kt P));have j:=h_ (ej.box U.out S.out);have a0:=cp (i:=0) j.out rfl;have a1:=cp (i:=1) j.out rfl;have a2:=cp (i:=2) j.out rfl;have a3:=cp (i:=3) j.out rfl;have f0:=cB (i:=0) j.out;have f1:=cB (i:=1) j.out;have f2:=cB (i:=2) j.out;have f3:=cB (i:=3) j.out;clear B P J L Q R C;go_wp2_with fail;have A:=lI j.out (I_ n) (I_ q) (I_ o) (S_ p);have g0:=cp (i:=0) A rfl;have g1:=cp (i:=1) A rfl;have g2:=cp (i:=2) A rfl;have g3:=cp (i:=3) A rfl;exact bodyPost_ret (v:=(.tuple #[Wd.val ⟨n,q,o,p⟩,I_ 0])) (by simp[results,results271,go_sem,Wd.val,Wd.none,g0,g1,g2,g3]) rfl (by rw[u.out];exact⟨rfl,ej.MI U.out R2.out S.out (fF _ _ _ _ _ _)⟩)
 . rw[if_pos (by simpa using l)]at t
   have h2:=T.out;rw[t]at h2;exact absurd h2 l
end
theorem Rest.zero{l:List Int}{u b:Rd}{e:Int}(h:Rest l (u,e) (b,0)):e=0:=Decidable.byContradiction fun a=>a (congrArg Prod.snd (h.TT a))
theorem Rd.Qe{r:Rd}{a:Int}{s:List UInt8}{n b:Int}{l:List Int}(h:(r.make a s n b l).2.2=0):(r.gI a s n b l).2=0/\(r.v.x.cO a s b n).2.2=0:=by
 have d:r.make a s n b l=if(r.gI a s n b l).2≠0 then((r.gI a s n b l).1.nU r.v.x.cu a (r.v.cell a).1,Wd.none,(r.gI a s n b l).2)
  else({ (r.gI a s n b l).1 with ea:=(r.v.x.cO a s b n).2.1 },(r.v.x.cO a s b n).2.1,0):=rfl
 have c:(r.gI a s n b l).2=0:=by
  by_cases e:(r.gI a s n b l).2=0
  . exact e
  . rw[d,if_pos e]at h
    exact absurd h e
 refine⟨c,Decidable.byContradiction fun e=>?_⟩;unfold Rd.gI at c;rw[if_pos e]at c;exact e c
section
variable (G:Gk) (X:Nat->Prop) (w:World) (r:Rd)
theorem vR(l:Int)(c:List UInt8)(a b:Int)(f:0<=a)(g:a<=255)(j:(r.v.x.cO l c a b).2.2=0)(h:ej w G X r):Calls prog 82 #[cD G.K.s,I_ l,S_ c,I_ a,I_ b] w
 fun e w'=>e=.returned (.tuple #[(r.v.x.cO l c a b).2.1.val,I_ (r.v.x.cO l c a b).2.2])/\∃ d,ej w' G d (r.kf l c b a)/\ef w X w' d :=
 (Eg G.K w r.v l c a b f g j h.fv).mono fun _ _ ⟨i,m,k⟩=>⟨i,X,h.vm m k,h.uc k⟩
theorem BR(b:Int)(s:List UInt8)(n d:Int)(a:Option Addr)(c:Nat)(l:List Int)(f0:0<=d)(f1:d<=255)(ha:iI w a l)(hl:l.length<=100000)(am:∀ g,dF a=some g->¬ X g/\g<w.heap.size)(an:(r.make b s n d l).2.2=0)(h:ej w G X r) :
 Calls prog 31 #[cD G.ob,I_ b,S_ s,I_ n,I_ d,.slice a l.length c] w (MD Wd.val G X w (r.make b s n d l)):=by
 have p:r.make b s n d l=if(r.gI b s n d l).2≠0 then((r.gI b s n d l).1.nU r.v.x.cu b (r.v.cell b).1,Wd.none,(r.gI b s n d l).2)
  else({ (r.gI b s n d l).1 with ea:=(r.v.x.cO b s d n).2.1 },(r.v.x.cO b s d n).2.1,0):=rfl
 have R:=ya r.v.x h.fv.vm.sp.ok h.fv.vm.sp.mem.le b s d n;have t:Rest l (r.kf b s n d,(r.v.x.cO b s d n).2.2) (r.gI b s n d l):=by
  unfold Rest Rd.gI;simp only;split
  . rename_i e;rw[if_neg (by simpa using e)]
  . rfl
 have aq:=h_ fun V Y u n (D:ej V G Y u)=>pg G Y V u n D;have HH:=h_ fun V (D:dZ V G.K r.v)=>zx G.K V r.v D;have Z:=h_ fun V (D:dZ V G.K r.v)=>jv G.K V r.v b D;obtain⟨m0,O⟩:=Rd.Qe an;have y:=h_ fun V (D:ej V G X r)=>vR G X V r b s d n f0 f1 O D;clear an;generalize r.make b s n d l=aw at p |-;generalize r.gI b s n d l=q2 at p t m0;generalize r.v.x.cO b s d n=cr at p t R y O;generalize r.kf b s n d=rm at t y;generalize r.v.x.cu=hh at p HH;generalize r.v.cell b=cc at p Z;obtain⟨aC,ax⟩:=cc;obtain⟨x1,⟨z,C,A,B⟩,ce⟩:=cr;obtain⟨u2,e2⟩:=q2;simp only at p t R y Z m0 O;subst m0 O;rw[if_neg (by simp)]at p;have HQ:=h_ p;have ai:=h_ t;have ae:=h_ R;have HA:=h_ ha;have aa:=h_ am;have ag:=h_ h.zw;have H:=h_ (h.cL (dR w (.cells #[I_ 0,I_ 0,I_ 0,.string ⟨#[]⟩] 53)));have E0:=h_ (ef.refl (w.alloc (.cells #[I_ 0,I_ 0,I_ 0,.string ⟨#[]⟩] 53)) X);clear h p t R ha am;have o0:=H.out.o0;have v0:=H.out.v0;have vs:=H.out.vs;go_enter func31,ntmps31;go_wp2_with fail;refine eD (HH.out _ H.out.fv) ?_;go_wp2_with fail;refine eD (Z.out _ H.out.fv) ?_;go_wp2_with fail;unfold Wd.val at y;simp only at y;refine ir (y.out _ H.out) E0 ?_;intro U X1 R1 E1;try clear o0;try clear v0;try clear vs
 go_upto_region 4 with fail;have ka:=dR U (.cells #[I_ z,I_ C,I_ A,S_ B] 53);have I:=h_ (cx U (.cells #[I_ z,I_ C,I_ A,S_ B] 53));have R2:=h_ (R1.out.cL ka);have L:=h_ (E1.out.trans (ef.kt ka));have ab:=h_ R1.out.zw;obtain⟨ac,ak⟩:∃ ac,ac=U.heap.size:=⟨_,rfl⟩;rw[<- ak]at I ab |-;generalize U.alloc (.cells #[I_ z,I_ C,I_ A,S_ B] 53)=w2 at I R2 L |-;clear ka ak y R1 E1;go_wp2_with fail
 go_loopw [18,61] (fun ev iv wr=>∃ (i:Nat) (q:Rd × Int) (Y:Nat->Prop),ev=I_ 0/\iv=I_ i/\i<=l.length/\ej wr G Y q.1/\ef w2 X1 wr Y/\Rest (l.drop i) q (u2,0)) (fun _ iv _=>l.length-(intOf iv).toNat)
 case atStart=>exact⟨0,(rm,0),X1,rfl,rfl,Nat.zero_le _,R2.out,ef.refl _ _,ai.out⟩
 case round =>
  obtain⟨i,⟨u,e⟩,Y,rfl,rfl,hi,hr,ad,t⟩:=hrel;have f:=h_ hr;have M:=h_ ad;have E3:=h_ (L.out.trans ad);have F:=h_ t;clear hr ad t;by_cases al:i<l.length
  . have aj:iI w2 a l:=(HA.out.ct (dR w _) (fun _ _=>id)).ct L.out.k (fun g S=>(aa.out g S).1)
    obtain⟨g,o,rfl,hc⟩:=aj.ct M.out.k (fun g S e=>(L.out.n g e).elim (aa.out g S).1 (fun e=>by have:=(aa.out g S).2;rw[World.size_alloc]at e;omega)) i al;have hd:l.drop i=l[i] :: l.drop (i+1):=List.drop_eq_getElem_cons al;have E:=F.out;rw[hd]at E;replace F:=h_ E;generalize l[i]=m at hc F;have au:(i:Int)<l.length:=by omega
    clear hd E aj;obtain rfl:e=0:=F.out.zero;have HS:=h_ (Rest.step (F.out.ok rfl));have af:=h_ (aq.out wr Y u m f.out);generalize u.cN m=q at HS af;obtain⟨u3,e3⟩:=q;obtain rfl:e3=0:=HS.out.zero;have o0:=f.out.o0;have v0:=f.out.v0;go_wp2_with fail;refine af.out.mono ?_;rintro e w4 ⟨rfl,X4,r4,k4⟩;have R4:=h_ r4;have W:=h_ (M.out.trans k4);clear r4 k4;try clear o0;try clear v0;try clear vs
    go_wp2_with fail;go_roundw;case rel=>exact⟨i+1,(u3,0),X4,rfl,by go_num,by omega,R4.out,W.out,HS.out⟩
    case measure=>simp[intOf];omega
  . have ar:i=l.length:=by omega
    subst ar;have E:=F.out;rw[List.drop_length]at E;have hf:=E.done;injection hf with hf1 hf2;subst hf1 hf2;have au:¬ ((l.length:Int)<l.length):=by omega
    have N:=h_ (M.out.k.heap I.out ab.out);have av:=h_ (show ¬ Y ac from fun J=>(M.out.n _ J).elim ab.out (fun h=>by have:=cA I.out;omega));clear E ai I;have T:=kQ wr G.ob 10 11 12 13 (I_ z) (I_ C) (I_ A) (S_ B);have R4:=h_ (f.out.mE (r':={ u with ea:=⟨z,C,A,B⟩ }) T (fun ao hc=>cz (cz (cz (cz hc _) _) _) _) ⟨rfl,rfl,rfl,rfl,rfl,rfl⟩ { f.out.ok with BK:=ae.out.1,BL:=ae.out.2 });have W:=h_ (E3.out.trans (f.out.pe T));have j:=h_ (ej.box ag.out E3.out)
    have ah:=h_ (show G.ob≠w.heap.size from fun J=>by
     have P:=f.out.heap;obtain⟨ao,P⟩:=P;rw[J,j.out]at P
     cases P)
    have a0:=cp (i:=0) j.out rfl;have a1:=cp (i:=1) j.out rfl;have a2:=cp (i:=2) j.out rfl;have a3:=cp (i:=3) j.out rfl;have f0:=cB (i:=0) j.out;have f1:=cB (i:=1) j.out;have f2:=cB (i:=2) j.out;have f3:=cB (i:=3) j.out;have y0:=cp (i:=0) N.out rfl;have y1:=cp (i:=1) N.out rfl;have y2:=cp (i:=2) N.out rfl;have y3:=cp (i:=3) N.out rfl;have ay:=f.out.S8;have az:=f.out.S9;have aA:=f.out.S';have aB:=f.out.Ta;have q0:=f.out.er 10;have q1:=f.out.er 11;have q2:=f.out.er 12;have q3:=f.out.er 13;have n1:=ah.out;have ap:=h_ (T.heap j.out (fun J=>ah.out J.symm));clear T;go_wp2_with fail;have Q:=lI ap.out (I_ z) (I_ C) (I_ A) (S_ B);have g0:=cp (i:=0) Q rfl;have g1:=cp (i:=1) Q rfl;have g2:=cp (i:=2) Q rfl;have g3:=cp (i:=3) Q rfl;exact bodyPost_ret (v:=(.tuple #[Wd.val ⟨z,C,A,B⟩,I_ 0])) (by simp[results,results31,go_sem,Wd.val,Wd.none,g0,g1,g2,g3]) rfl (by rw[HQ.out];exact⟨rfl,ej.MI ag.out R4.out W.out (fF _ _ _ _ _ _)⟩)
theorem Ek(n f:Int)(a:Option Addr)(c:Nat)(l:List Int)(K:0<=f)(L:f<=255)(N:iI w a l)(hl:l.length<=100000)(P:∀ g,dF a=some g->¬ X g/\g<w.heap.size)(m:(r.cO n f l).2.2=0)(h:ej w G X r) :
 Calls prog 371 #[cD G.ob,I_ n,I_ f,.slice a l.length c] w (MD Wd.val G X w (r.cO n f l)):=by
 have j:=h_ fun V (B:ej V G X r)=>ud G X V r B;have b:r.cO n f l=if r.name.2.2≠0 then(r.next,Wd.none,r.name.2.2)else r.next.make r.v.cF r.name.2.1 n f l:=rfl;have D:r.name.1=r.next:=rfl;have aa:r.v.cF=r.next.v.cF:=rfl;rw[aa]at b;generalize r.cO n f l=Q at b m |-;generalize r.name=ac at j b D;obtain⟨r1,s,e1⟩:=ac;simp only at D b;subst D;unfold MD at j;simp only at j;have I:=h_ h.zw;have W:=h_ (h.cL (dR w (.cells #[I_ 0,I_ 0,I_ 0,.string ⟨#[]⟩] 53)));have S:=h_ (ef.refl (w.alloc (.cells #[I_ 0,I_ 0,I_ 0,.string ⟨#[]⟩] 53)) X);replace j:=h_ (j.out _ W.out);generalize r.next=r at j b;have T:=h_ N;have H:=h_ P;clear h N P;by_cases p:e1=0
 . subst p
   rw[if_neg (by simp)]at b;have o:=h_ fun V Y (hA:iI V a l) (hn:∀ g,dF a=some g->¬ Y g/\g<V.heap.size) (B:ej V G Y r)=>BR G Y V r r.v.cF s n f a c l K L hA hl hn (by rw[<- b];exact m) B;rw[<- b]at o;obtain⟨R,⟨t,y,u,x⟩,e2⟩:=Q;have m:e2=0:=m;subst m;unfold MD Wd.val at o;simp only at o;clear b;go_enter func371,ntmps371;go_wp2_with fail;refine ir (j.out) S ?_;intro E J A q
   skip
   have o0:=A.out.o0;have v8:=A.out.v8;have M:iI E a l:=(T.out.ct (dR w _) (fun _ _=>id)).ct q.out.k (fun g C=>(H.out g C).1);have O:∀ g,dF a=some g->¬ J g/\g<E.heap.size:=fun g C=>by
    have p:=H.out g C;have h2:=q.out.k.size;rw[World.size_alloc]at h2;exact⟨fun e=>(q.out.n g e).elim p.1 (fun e=>by rw[World.size_alloc]at e;omega),by omega⟩
   have U:=h_ (o.out E J M O A.out);clear M O o;go_wp2_with fail;refine ir (U.out) q ?_;intro w2 X2 Z F;try clear o0;try clear v8
   have d:=h_ (ej.box I.out F.out);have a0:=cp (i:=0) d.out rfl;have a1:=cp (i:=1) d.out rfl;have a2:=cp (i:=2) d.out rfl;have a3:=cp (i:=3) d.out rfl;have K:=cB (i:=0) d.out;have L:=cB (i:=1) d.out;have f2:=cB (i:=2) d.out;have f3:=cB (i:=3) d.out;go_wp2_with fail;have ab:(R,(⟨t,y,u,x⟩:Wd),(0:Int))=(R,⟨t,y,u,x⟩,0):=rfl;have z:=lI d.out (I_ t) (I_ y) (I_ u) (S_ x);have g0:=cp (i:=0) z rfl;have g1:=cp (i:=1) z rfl;have g2:=cp (i:=2) z rfl;have g3:=cp (i:=3) z rfl;exact bodyPost_ret (v:=(.tuple #[Wd.val ⟨t,y,u,x⟩,I_ 0])) (by simp[results,results371,go_sem,Wd.val,Wd.none,g0,g1,g2,g3]) rfl (by rw[ab];exact⟨rfl,ej.MI I.out Z.out F.out (fF _ _ _ _ _ _)⟩)
 . rw[if_pos (by simpa using p)]at b
   rw[b]at m;exact absurd m p
theorem BS(n a:Int)(b:0<=a)(c:a<=255)(f:(r.cO n a []).2.2=0)(h:ej w G X r) :
 Calls prog 371 #[cD G.ob,I_ n,I_ a,.slice none 0 0] w (MD Wd.val G X w (r.cO n a [])) :=
 Ek G X w r n a none 0 [] b c (fun i e=>absurd e (by simp)) (by simp) (fun g d=>by cases d) f h
end
def MU(f:Nat)(F:Rd->Rd × Int):Prop:=∀ (G:Gk) (X:Nat->Prop) (w:World) (r:Rd),ej w G X r->(F r).2=0->Calls Tryz.prog f #[cD G.ob] w (PR G X w (F r))
structure QQ(f:Nat):Prop where
 L8:Enters f
 ok:∀ (G:Gk) (X:Nat->Prop) (w:World) (r:Rd),Gl w X->ej w G X r->(Rd.Jj f r).2=0->Calls Tryz.prog f #[cD G.ob] w (PR G X w (Rd.Jj f r))
theorem IT:MU 217 Rd.pW:=by
 intro G X w r h m
 have b:r.pW=if r.comp then(r,-22)else
  if(r.cY.cO 1001 2 []).2.2≠0 then((r.cY.cO 1001 2 []).1,(r.cY.cO 1001 2 []).2.2)
  else({ (r.cY.cO 1001 2 []).1 with eC:=(r.cY.cO 1001 2 []).2.1 }.start false,0):=rfl
 generalize r.pW=Q at b m |-;cases k:r.comp with
 | true =>
  rw[if_pos k]at b;rw[b]at m;exact absurd (show(-22:Int)=0 from m) (by decide)
 | false =>
  rw[if_neg (by rw[k];simp)]at b;have N:=h_ fun V (u:ej V G X r)=>FY G X V r u;have l:(r.cY.cO 1001 2 []).2.2=0:=Decidable.byContradiction fun e=>e (by rw[b,if_pos e]at m;exact m);rw[if_neg (by rw[l];simp)]at b;have p:=h_ fun V Y (u:ej V G Y r.cY)=>BS G Y V r.cY 1001 2 (by decide) (by decide) l u;have s:=Rd.BP r.cY 1001 2 [];generalize r.cY.cO 1001 2 []=q at b p s l;obtain⟨Z,⟨d,i,f,g⟩,e1⟩:=q;simp only at b s l;subst l;unfold MD Wd.val at p;simp only at p;have A:=h_ h;have I:=h_ (ef.refl w X);have n:=A.out.o4;rw[k]at n;have O:=h_ s;have P:=h_ b;clear h b k s;go_enter func217,ntmps217;go_wp2_with fail;refine ir (N.out _ A.out) I ?_;intro w1 X1 S J;try clear n
  go_wp2_with fail;refine ir (p.out _ _ S.out) J ?_;intro t X2 T K;try clear n
  have x:=dR t (.cells #[I_ d,I_ i,I_ f,S_ g] 53);have c:=h_ (cx t (.cells #[I_ d,I_ i,I_ f,S_ g] 53));have a:=h_ (T.out.cL x);have z:=h_ (K.out.trans (ef.kt x));obtain⟨j,B⟩:∃ j,j=t.heap.size:=⟨_,rfl⟩
  go_upto_if 17 with fail
  rw[<- B]at c |-;generalize t.alloc (.cells #[I_ d,I_ i,I_ f,S_ g] 53)=o at c a z |-;have y0:C_ o j 0=some (I_ d):=cp c.out rfl;have y1:C_ o j 1=some (I_ i):=cp c.out rfl;have y2:C_ o j 2=some (I_ f):=cp c.out rfl;have y3:C_ o j 3=some (S_ g):=cp c.out rfl;have C:=a.out.o6;have E:=a.out.o7;have F:=a.out.o8;have H:=a.out.o9;have f6:=a.out.er 6;have f7:=a.out.er 7;have f8:=a.out.er 8;have f9:=a.out.er 9;have y:=kQ o G.ob 6 7 8 9 (I_ d) (I_ i) (I_ f) (S_ g);have v:=O.out (by trivial);have U:=h_ (a.out.mE (r':={ Z with eC:=⟨d,i,f,g⟩ }) y (fun D k=>cz (cz (cz (cz k _) _) _) _) ⟨rfl,rfl,rfl,rfl,rfl,rfl⟩ { a.out.ok with FU:=by have:=a.out.ok.BK;rw[v]at this;exact this,FV:=by have:=a.out.ok.BL;rw[v]at this;exact this });have L:=h_ (z.out.trans (a.out.pe y));have R:=h_ (BN G _ _ _ false U.out);clear x y v B;go_wp2_with fail;try clear n;try clear C;try clear E;try clear F;try clear H
  refine ir (R.out) L ?_;intro w5 X5 W M;try clear n;try clear C;try clear E;try clear F;try clear H
  go_wp2_with fail;go_ret;rw[P.out];exact⟨rfl,_,W.out,M.out⟩
theorem wS:MU 218 Rd.kY:=by
 intro G X w r h c;have g:r.kY=if r.eM then(r,-22)else Rd.bind r.stop fun r=>Rd.bind (r.di [101,120,105,116] []) fun r=>(r.mh,0):=rfl;generalize r.kY=Q at g c |-;cases j:r.eM with
 | true =>
  rw[if_pos j]at g;rw[g]at c;exact absurd (show(-22:Int)=0 from c) (by decide)
 | false =>
  rw[if_neg (by rw[j];simp)]at g;have N:=h_ (FX G X w r h);have R0:=h_ h;have E0:=h_ (ef.refl w X);have i:=R0.out.o5;rw[j]at i;generalize r.stop=q1 at g N;obtain⟨q,R⟩:=q1
  have ag:R=0:=Decidable.byContradiction fun e=>e (by
   have o:Q=(q,R):=by rw[g];unfold Rd.bind;rw[if_pos e]
   rw[o]at c
   exact c)
  subst ag;have x:Q=Rd.bind (q.di [101,120,105,116] []) fun r=>(r.mh,0):=by rw[g];rfl
  have M:=h_ fun V Y (I:ej V G Y q)=>tA G Y V q [101,120,105,116] (by decide) I;generalize q.di [101,120,105,116] []=q2 at x M;obtain⟨a,S⟩:=q2
  have ah:S=0:=Decidable.byContradiction fun e=>e (by
   have o:Q=(a,S):=by rw[x];unfold Rd.bind;rw[if_pos e]
   rw[o]at c
   exact c)
  subst ah;clear c;have T:Q=(a.mh,0):=by rw[x];rfl
  have s:=h_ T;clear h g x T j;go_enter Tryz.func218,Tryz.ntmps218;go_wp2_with fail;refine ir (N.out) E0 ?_;intro w1 X1 R1 E1;try clear i
  go_wp2_with fail;refine ir (M.out _ _ R1.out) E1 ?_;intro B X2 d E2;try clear i
  go_wp2_with fail;have c:=d.out.ok;have D:=h_ fun V Y (I:ej V G Y a)=>FZ G Y V a a.eC 0 c.FU c.FV (by decide) (by decide) I;have f:a.mh=if a.eE.length=1 then({ (a.mark a.eC 0).1 with ea:=a.eC }:Rd).oB else { (a.mark a.eC 0).1 with ea:=a.eC }:=rfl;have u:(a.mark a.eC 0).1.eC=a.eC:=rfl;have v:(a.mark a.eC 0).1.eE=a.eE:=rfl;generalize a.mark a.eC 0=q3 at f D u v;obtain⟨r3,e3⟩:=q3;simp only at f u v;have F:=h_ f;have ad:=h_ u;have ae:=h_ v;unfold Wd.val at D;have y:=d.out.o0;have z:=d.out.v0;have A:=d.out.vs;have k:=d.out.o6;have l:=d.out.o7;have m:=d.out.o8;have n:=d.out.o9;clear c f u v;go_still_tail 14,(by kernel_rfl);try change wpList _ _ _ _ _ B.drew
  have O:=h_ (d.out.cL (fw B));have K:=h_ (E2.out.trans (ef.kt (fw B)));try clear y;try clear i;try clear k;try clear l;try clear m;try clear n;try clear z;try clear A
  generalize B.drew=w3 at O K |-;go_wp2_with fail;refine ir (D.out _ _ O.out) K ?_;intro C X4 b E4;try clear y;try clear i;try clear k;try clear l;try clear m;try clear n;try clear z;try clear A
  have k:=b.out.o6;have l:=b.out.o7;have m:=b.out.o8;have n:=b.out.o9;have U:=b.out.S8;have W:=b.out.S9;have Z:=b.out.S';have aa:=b.out.Ta;rw[ad.out]at k l m n;have ai:=b.out.er 10;have aj:=b.out.er 11;have ak:=b.out.er 12;have al:=b.out.er 13;have J:=kQ C G.ob 10 11 12 13 (.int .i64 a.eC.cM) (.int .i64 a.eC.xt) (.int .i64 a.eC.cP) (.string ⟨a.eC.name.toArray⟩);have H:=h_ (b.out.mE (r':={ r3 with ea:=a.eC }) J (fun ab j=>cz (cz (cz (cz j _) _) _) _) ⟨rfl,rfl,rfl,rfl,rfl,rfl⟩ { b.out.ok with BK:=d.out.ok.FU,BL:=d.out.ok.FV });have L:=h_ (E4.out.trans (b.out.pe J));obtain⟨la,lc,P,_⟩:=H.out.iG;have af:C.cell? ⟨G.ob,2,none⟩=some (.slice la r3.eE.length lc):=by
   have t:=b.out.heap;obtain⟨ab,t⟩:=t;have o:((((C.setCell ⟨G.ob,10,none⟩ (.int .i64 a.eC.cM)).setCell ⟨G.ob,11,none⟩ (.int .i64 a.eC.xt)).setCell ⟨G.ob,12,none⟩ (.int .i64 a.eC.cP)).setCell ⟨G.ob,13,none⟩ (.string ⟨a.eC.name.toArray⟩)).cell? ⟨G.ob,2,none⟩=C.cell? ⟨G.ob,2,none⟩:=by
    rw[cp (cz (cz (cz (cz t _) _) _) _) rfl,cp t rfl];rfl
   rw[<- o];exact P
  rw[ae.out]at af;have ac:=h_ (ue G _ _ _ H.out);clear P J;have f:=F.out;by_cases p:a.eE.length=1
  . have E:=h_ (s.out.trans (by rw[f,if_pos p]))
    have d3:((a.eE.length:Int) == 1)=true:=by simp[p]
    clear p f F s;go_wp2_with fail;try clear y;try clear i;try clear k;try clear l;try clear m;try clear n;try clear U;try clear W;try clear Z;try clear aa;try clear z;try clear A
    refine ir (ac.out) L ?_;intro w6 X6 R6 E6;try clear y;try clear i;try clear k;try clear l;try clear m;try clear n;try clear U;try clear W;try clear Z;try clear aa;try clear z;try clear A
    go_wp2_with fail;go_ret;rw[E.out];exact⟨rfl,_,R6.out,E6.out⟩
  . have E:=h_ (s.out.trans (by rw[f,if_neg p]))
    have d3:((a.eE.length:Int) == 1)=false:=by simp;omega
    clear p f F s;go_wp2_with fail;go_ret;rw[E.out];exact⟨rfl,_,H.out,L.out⟩
theorem MV:MU 248 Rd.Ip:=by
 intro G X w r h f;have a:r.Ip=if r.find.2.2≠0 then(r.find.1,r.find.2.2)else r.find.1.gX [r.find.2.1.xt]:=rfl;generalize r.Ip=Q at a f |-;have d:r.find.2.2=0:=Decidable.byContradiction fun e=>e (by rw[a,if_pos e]at f;exact f);have c:=h_ (BQ G X w r d h);have D:=h_ h;have u:=h_ (ef.refl w X);generalize r.find=B at a c d;obtain⟨t,⟨j,b,k,l⟩,H⟩:=B;unfold MD Wd.val at c;simp only at a c d;subst d;clear f;rw[if_neg (by simp)]at a;have p:=h_ fun V Y (A:ej V G Y t)=>tB G Y V t b A;rw[<- a]at p;clear h a;go_enter func248,ntmps248;go_wp2_with fail;refine ir (c.out) u ?_;intro g E y v
 skip
 go_upto_if 11 with fail
 have n:=dR g (.cells #[I_ j,I_ b,I_ k,S_ l] 53);have i:=h_ (cx g (.cells #[I_ j,I_ b,I_ k,S_ l] 53));have q:=h_ (y.out.cL n);have o:=h_ (v.out.trans (ef.kt n));obtain⟨m,s⟩:∃ m,m=g.heap.size:=⟨_,rfl⟩;rw[<- s]at i |-;generalize g.alloc (.cells #[I_ j,I_ b,I_ k,S_ l] 53)=C at i q o |-;have J:C_ C m 1=some (I_ b):=cp i.out rfl;clear n s;go_wp2_with fail;refine ir (p.out _ _ q.out) o ?_;intro I F z x
 skip
 go_wp2_with fail;go_ret;exact⟨rfl,_,z.out,x.out⟩
def QR(D:Int)(en:VM->Int->VM × Int):Pk->Prop
 | .plain f=>pD f (VM.uZ f)
 | .with_ n f=>1<=n/\n<=8/\DR D n.toNat f (VM.OW en f)
 | .push f=>FF f (VM.Ho f)
 | .moves _ _=>False
 | .look f=>vz f (VM.Lg f)
 | .two _=>False
 | .one op=>op=[49,43]
theorem Sy(D:Int):L9 D 1 322 (S_ ([49,43]:List UInt8)) (VM.tg (fun k a _=>(Ay.pU k a,0)) [49,43]):=by
 refine⟨fun A w=>call322 A w,?_⟩;intro K w v I c g L h E S F m p o;obtain⟨x,rfl⟩:∃ x,L=[x]:=List.length_eq_one_iff.1 p;have J:C_ w I 0=some (I_ x):=m.cell (i:=0) (by simp);have r:VM.tg (fun k a _=>(Ay.pU k a,0)) [49,43] v [x]=v.push [Ay.pU [49,43] x]:=rfl;rw[r];have d:=h_ fun (q:fP w)=>(Go.Proofs.Ay.OY x q.1 (o x (by simp))).mono (fun e w' (h:_/\_)=>(⟨h.1,h.2 ▸ cq.refl (fun _=>False) _⟩:_/\K_ q.1 w'));generalize Ay.pU [49,43] x=n at d |-;have N:=fun (q:fP w)=>q.2.cell F id;have O:=fun (q:fP w)=>q.2.cell J id;have s:=h_ fun V (C:dZ V K v)=>jh K V v n 2 C;have y:=h_ h;have P:=h_ (cq.refl K.ey w);clear h E r m p o;go_enter func322,ntmps322;go_wp2_with fail;refine Go.Proofs.K.cW ?iX ?iY ?_;case iX=>kernel_rfl
 case iY=>kernel_rfl
 repeat ((with_reducible refine wpQuiet_step ?_);intro f b;go_simp;first | ((with_reducible refine b _ ?_);clear b f) | (refine b _ ?_;clear b f) | (apply Exists.intro;refine⟨fun _=>?_,b _ ?_⟩;(first | exact Go.Proofs.K.gO (d.out _));clear b f))
 with_reducible refine wpQuiet_nil ?_
 intro M G;obtain⟨⟨R,j⟩,H⟩:=G;subst H;have l:=h_ (y.out.cL j);have t:=h_ (lK K j);clear N O j d;have B:=l.out.m1;go_wp2_with fail;refine nv (s.out M l.out) t ?_;intro Q z u;try clear B
 go_wp2_with fail;go_ret;exact⟨rfl,z.out,u.out⟩
theorem IU(D:Int)(r:VM->Int->VM × Int)(q:Pk)(c:QR D r q)(K:Bk)(w:World)(v:VM)(h:dZ w K v)(x:v.d.depth<D+1)(u:Value)(o:Good K.X w q u):Sk K w (VM.Fb r q v) u:=by
 cases q with
 | plain f =>
  have c:pD f (VM.uZ f):=c;exact .inl ⟨f,o,c.L8,c.ok K w v h⟩
 | with_ n f =>
  obtain⟨G,H,E⟩:1<=n/\n<=8/\DR D n.toNat f (VM.OW r f):=c;obtain⟨a,b,rfl,⟨i,y,rfl,j,g⟩,⟨k,B,rfl,p,m⟩⟩:=o;have e:n=(n.toNat:Int):=by omega
  rw[e]at g;exact .inr (.inr ⟨_,_,_,rfl,mg,L' K w v D n.toNat f _ (by omega) (by omega) E i k h x (cp g rfl) (cp m rfl) j p⟩)
 | push f =>
  have c:FF f (VM.Ho f):=c;obtain⟨a,rfl,⟨i,y,rfl,j,g⟩⟩:=o;exact .inr (.inl ⟨_,_,rfl,Bm,Ic K w v f _ c i h (cp g rfl)⟩)
 | moves n l=>exact c.elim
 | look f =>
  have c:vz f (VM.Lg f):=c;obtain⟨C,⟨a,b,rfl,⟨i,y,rfl,j,g⟩,⟨k,B,rfl,p,m⟩⟩,⟨s,F,rfl,z,t⟩⟩:=o;exact .inr (.inr ⟨_,_,_,rfl,mg,Bi K w v D 1 _ (hE f) _ (by omega) (by omega) (look_ok D f _ c) i k s h x (cp g rfl) (cp m rfl) (cp t rfl) j p z⟩)
 | two A=>exact c.elim
 | one A =>
  have c:A=[49,43]:=c;subst c;obtain⟨C,⟨a,b,rfl,⟨i,y,rfl,j,g⟩,⟨k,B,rfl,p,m⟩⟩,⟨s,F,rfl,z,t⟩⟩:=o;exact .inr (.inr ⟨_,_,_,rfl,mg,Bi K w v D 1 _ (S_ ([49,43]:List UInt8)) _ (by omega) (by omega) (Sy D) i k s h x (cp g rfl) (cp m rfl) (cp t rfl) j p z⟩)
theorem Sz(D:Int)(pk:Pk)(h:VM.lP pk=true):QR D VM.zL pk:=by
 cases pk with
 | plain f =>
  unfold VM.lP at h;simp only[Bool.or_eq_true,decide_eq_true_eq]at h;rcases h with ((rfl | rfl) | rfl) | rfl
  . exact DT
  . exact zk
  . exact Bl
  . exact Bj
 | with_ n f =>
  unfold VM.lP at h;simp only[Bool.and_eq_true,Bool.or_eq_true,decide_eq_true_eq]at h;obtain⟨rfl,((rfl | rfl) | rfl) | rfl⟩:=h
  . exact⟨by decide,by decide,Si D⟩
  . exact⟨by decide,by decide,Py D⟩
  . exact⟨by decide,by decide,Ig D⟩
  . exact⟨by decide,by decide,Sh D⟩
 | push f =>
  unfold VM.lP at h;simp only[decide_eq_true_eq]at h;subst h;exact DS
 | moves n l=>cases h
 | look f =>
  unfold VM.lP at h;simp only[decide_eq_true_eq]at h;subst h;exact Ie
 | two a=>cases h
 | one a =>
  unfold VM.lP at h;simp only[decide_eq_true_eq]at h;subst h;exact(rfl:([49,43]:List UInt8)=[49,43])
section
variable (K:Bk) (w:World) (v:VM)
theorem IV(f:Nat)(Q:VM × Int)(B:Enters f)(k b:Nat)(h:dZ w K v)(A:1<=v.d.depth)(G:w.cell? ⟨k,0,none⟩=some (I_ (1:Nat)))(g:w.cell? ⟨b,0,none⟩=some (hE f))(D:K.X b)
 (m:∀ V a c,dZ V K { v with d:={ v.d with depth:=v.d.depth-1 } }->oA V a [(dK.cM v.x.mem v.d 0).1]->Calls prog f #[cD K.mb,.slice (some ⟨a,0,none⟩) 1 c] V (PV K V Q)) :
 Calls prog 406 #[cD K.mb,cD k,cD b] w (PV K w Q):=by
 have r:=h_ (h.Ib D);have o:=h_ m;have l:VM.fo v.x.mem v.d 1=[(dK.cM v.x.mem v.d 0).1]:=rfl;have p:=h_ (zj K w v 1 (by decide) h (by omega));have q:=h_ l;unfold hE at g;unfold Enters at B;have F:=h_ h;have E:=h_ (cq.refl K.ey w);clear h A m l;go_enter func406,ntmps406;go_wp2_with fail;refine p.out.mono ?_;rintro e C ⟨a,rfl,j,n,i⟩;rw[q.out]at j;have u:=h_ j;have y:=h_ n;have s:=h_ i;have H:=i.cell g r.out;clear g j n i;go_wp2_with fail;refine nv (o.out C a _ y.out u.out) s ?_;intro I z t
 skip
 go_wp2_with fail;go_ret;exact⟨rfl,z.out,t.out⟩
theorem IW(s c:Nat)(x:Int)(u:VM)(Q:VM × Int)(h:dZ w K v)(p:oA w s [x])(B:v.fX [v.ip,v.dU,v.d.depth,v.cC]=(u,0))
 (y:∀ V,dZ V K { u with cC:=u.r.depth,ip:=u.cV }->Calls prog 310 #[cD K.mb,I_ x] V (PV K V Q)) :
 Calls prog 350 #[cD K.mb,.slice (some ⟨s,0,none⟩) 1 c] w (PV K w Q):=by
 have q0:C_ w s 0=some (I_ x):=p.cell (i:=0) (by simp);have O:=h_ (p.nf h);have z:=h_ fun V (q:dZ V K v)=>H' K V v v.ip v.dU v.d.depth v.cC 2 q;rw[B]at z;have L:=h_ fun V (q:dZ V K v)=>vv K V v q;have g:=h_ (Bh K w v h);have N:=h_ y;have b:=h_ h;have K0:=h_ (cq.refl K.ey w);have n:=b.out.m1;have k:=b.out.m2;have l:=b.out.m5;have o:=b.out.m6;have j:=b.out.m16;clear h y p B;go_enter func350,ntmps350;go_wp2_with fail
 go_region_held3 (fun w'=>C_ w' K.mb 1=some (cD K.db)/\C_ w' K.mb 2=some (cD K.rb)/\C_ w' K.mb 5=some (I_ v.ip)/\C_ w' K.mb 6=some (I_ v.dU)/\C_ w' K.mb 16=some (I_ v.cC))
  (first | go_keep | exact⟨E,G,H,I,F⟩)
  (first
    | (go_at_call 18;refine(L.out w.drew (b.out.cL (cq.drew _ _))).mono ?_;rintro e w2 ⟨rfl,rfl⟩;dsimp only)
    | (go_at_call 80;refine(z.out w.drew (b.out.cL (cq.drew _ _))).mono ?_;rintro e t ⟨rfl,D,f⟩;dsimp only;have E:=f.cell n g.out;have G:=f.cell k g.out;have H:=f.cell l g.out;have I:=f.cell o g.out;have F:=f.cell j g.out))
 have a:=h_ D;have P:=h_ (((cq.drew K.ey w)).trans (lJ K f));clear E G H I F D f;try clear n;try clear k;try clear l;try clear o;try clear j
 have a:Hid (dZ t K u):=a;obtain⟨X,Y,C,Z,o5,o6,o7⟩:=a.out.vm.rk.ok;have M:=h_ (pC K t u a.out);have m:=h_ (a.out.vt u.r.depth C (by omega));have R:=h_ (P.out.trans (gW K (gh t K.mb 16 (I_ u.r.depth))));have T:=h_ (m.out.vr u.cV);have A:=h_ (R.out.trans (gW K (gh _ K.mb 5 (I_ u.cV))));have W:=m.out.m15;have aa:=a.out.er 16;have f5:=m.out.er 5;have q3:=A.out.cell q0 O.out;have J:=h_ (N.out _ T.out);have k:=a.out.m2;have l:=a.out.m5;have j:=a.out.m16;clear X Y C Z o5 o6 o7;go_wp2_with fail;refine eD (M.out) ?_;go_wp2_with fail;refine nv (J.out) A ?_;intro w4 U S;try clear n;try clear k;try clear l;try clear o;try clear W;try clear j
 go_wp2_with fail;go_ret;exact⟨rfl,U.out,S.out⟩
theorem yc(xt c:Int)(pk:Pk)(q:VM × Int)(h:dZ w K v)(o:v.cell xt=(c,0))(j:ky (fc c)=some pk)(t:∀ u,Good K.X w pk u->Sk K w q u):Calls prog 310 #[cD K.mb,I_ xt] w (PV K w q):=by
 have s:fc c≠[]:=fun e=>by rw[e,xK]at j;cases j
 have I:1<=c/\c<=86:=by
  rcases Decidable.em (1<=c/\c<=86)with h | h
  . exact h
  . exact absurd (by unfold fc;rw[if_neg h]) s
 have k:=h_ (jv K w v xt h);rw[o]at k;simp only at k;have N:(c == 1001)=false:=by simp;omega
 have O:(c == 1002)=false:=by simp;omega
 have P:(c == 1003)=false:=by simp;omega
 have Q:(c == 1005)=false:=by simp;omega
 obtain⟨M,g,r,J,p,x,i⟩:=Pz h.vm.mB c;have A:=h_ p;have B:=h_ x;have L:=h_ (TH c (by unfold jD;omega));unfold Found at i;rw[j]at i;simp only at i;obtain⟨u,rfl,n⟩:=i;have y:=t u n;unfold Sk at y;have l:=h_ h;have C:=h_ (cq.refl K.ey w);have F:=l.out.m0;have G:=l.out.m17;have H:=l.out.ms;clear h o s I p t x j n J;rcases y with⟨f,rfl,m,d⟩ | ⟨f,a,rfl,m,d⟩ | ⟨f,a,b,rfl,m,d⟩;all_goals
  have z:=h_ d;unfold Enters at m;clear d;go_enter func310,ntmps310;go_wp2_with fail;refine eD (k.out) ?_
  go_wp2_with (first
   | (at_lookup;refine jd ik _ rfl _ _ 45 rfl _ underlying45 _ (Ps _) K.pb M g rfl A.out c L.out rfl _ B.out ?_;dsimp only[Option.getD_some,Option.isSome_some])
   | fail)
  refine nv (z.out) C ?_;intro R E D;try clear F;try clear G;try clear H
  go_wp2_with fail;go_ret;exact⟨rfl,E.out,D.out⟩
theorem BT(xt:Int)(h:dZ w K v)(b:v.cell xt=(1001,0)):Calls prog 310 #[cD K.mb,I_ xt] w (PV K w (v.fA xt)):=by
 have a:=h_ (jv K w v xt h);obtain⟨k,l⟩:=qy h xt (by rw[b]);rw[b]at a;simp only at a;have c:=h_ (wM K w v xt h k l);generalize v.fA xt=q at c |-;have d:=h_ h;have e:=h_ (cq.refl K.ey w);have i:=d.out.m0;have j:=d.out.ms;clear h b;go_enter func310,ntmps310;go_wp2_with fail;refine eD (a.out) ?_;go_wp2_with fail;refine nv (c.out) e ?_;intro m g f;try clear i;try clear j
 go_wp2_with fail;go_ret;exact⟨rfl,g.out,f.out⟩
theorem SB(xt:Int)(q:VM × Int)(h:dZ w K v)(G:VM.jz v xt q):Calls prog 310 #[cD K.mb,I_ xt] w (PV K w q):=by
 cases G with
 | pW e=>exact BT K w v xt h e
 | value n e j =>
  have g:=h_ (jv K w v xt h);have i:=h_ (jv K w v (xt+8) h);obtain⟨S,T⟩:=qy h xt (by rw[e]);rw[e]at g;rw[j]at i;simp only at g i;have k:=h_ (jh K w v n 2 h);generalize v.push [n]=q at k |-;have f:=h_ h;have l:=h_ (cq.refl K.ey w);have p:=f.out.m0;have r:=f.out.m1;have s:=f.out.ms;clear h e j;go_enter func310,ntmps310;go_wp2_with fail;refine eD (g.out) ?_;go_wp2_with fail;refine eD (i.out) ?_;go_wp2_with fail;refine nv (k.out) l ?_;intro R o m;try clear p;try clear r;try clear s
  go_wp2_with fail;go_ret;exact⟨rfl,o.out,m.out⟩
 | field n e j =>
  have g:=h_ (jv K w v xt h);have i:=h_ (jv K w v (xt+8) h);obtain⟨S,T⟩:=qy h xt (by rw[e]);rw[e]at g;rw[j]at i;simp only at g i;have k:=h_ (jh K w v (wrap64 (n+v.dU)) 2 h);generalize v.push [wrap64 (n+v.dU)]=q at k |-;have f:=h_ h;have l:=h_ (cq.refl K.ey w);have p:=f.out.m0;have r:=f.out.m1;have D:=f.out.m6;have s:=f.out.ms;clear h e j;go_enter func310,ntmps310;go_wp2_with fail;refine eD (g.out) ?_;go_wp2_with fail;refine eD (i.out) ?_;go_wp2_with fail;refine nv (k.out) l ?_;intro R o m;try clear p;try clear r;try clear D;try clear s
  go_wp2_with fail;go_ret;exact⟨rfl,o.out,m.out⟩
 | PH c pk e x O =>
  have W:=h.vm.dk.ok.2.2.1;exact yc K w v xt c pk _ h e x fun u t=>IU (v.d.depth+1) VM.zL pk (Sz _ pk O) K w v h (by omega) u t
 | cV c n u e x M j N P =>
  refine yc K w v xt c _ _ h e x fun y t=>?_;obtain⟨a,b,rfl,⟨E,X,rfl,Z,J⟩,⟨F,Y,rfl,U,L⟩⟩:=t;refine .inr (.inr ⟨_,_,_,rfl,mg,IV K w v 350 _ (fun B w=>call350 B w) E F h M (cp J rfl) (cp L rfl) U fun V Q C H z=>?_⟩);rw[j]at z;exact IW K V _ Q C n u _ H z N fun A I=>BT K A _ n I P
end
section
variable (K:Bk) (w:World) (v:VM)
theorem BU(xt:Int)(q:VM × Int)(h:dZ w K v)(x:0<v.cI)(e:VM.jz { v with cI:=v.cI-1 } xt q)(f:(VM.ez q).2=0):Calls prog 378 #[cD K.mb,I_ xt] w (PV K w (VM.ez q)):=by
 have c:=h.m10;have u:=h.er 10;have y:=h.ok.Fy;have t:decide (v.cI<=0)=false:=decide_eq_false (by omega);have s:=h_ h;have r:=h_ (cq.refl K.ey w);have l:=h_ (h.Fz (v.cI-1) (by omega) (by omega));have i:=h_ (gW K (gh w K.mb 10 (I_ (v.cI-1))));have g:=h_ (SB K _ _ xt q l.out e);obtain⟨a,d⟩:=q;have b:=h_ fun V (o:dZ V K a)=>Bo K V a d o f;generalize VM.ez (a,d)=q at b |-;clear h e f;go_enter func378,ntmps378;go_wp2_with fail;refine nv (g.out) i ?_;intro p m j;try clear c
 go_wp2_with fail;refine nv (b.out p m.out) j ?_;intro z n k;try clear c
 go_wp2_with fail;go_ret;exact⟨rfl,n.out,k.out⟩
theorem VM.BV{v a:VM}{xt:Int}(h:v.inline=(a,xt,0)):a.cI=v.cI/\jD xt:=by
 have e:v.inline.1.cI=v.cI:=rfl;have b:=v.xJ;rw[h]at e b;exact⟨e,b⟩
theorem Qf(xt:Int)(Q:VM × Int)(h:dZ w K v)(X:VM.Bt v xt Q):Calls prog 250 #[cD K.mb,I_ xt] w (PV K w Q):=by
 obtain⟨J,q,f,m,d⟩:=X;have S:=h_ (h.Sj 0 0 0 (by omega) (by omega));have N:=h_ (gW K (qw w K.mb (I_ 0) (I_ 0) (I_ 0)));have k:=h.m5;have y:=h.m6;have x:=h.m16;have f5:=h.er 5;have f6:=h.er 6;have ac:=h.er 16;have F:=h_ (BU K _ _ xt q S.out J f m);generalize VM.ez q=p at d F;clear m;have s:=h_ d;have R0:=h_ h;have K0:=h_ (cq.refl K.ey w);clear h d f J;go_enter func250,ntmps250;go_wp2_with fail;refine nv (F.out) N ?_;intro w2 T O;try clear k;try clear y;try clear x
 go_wp2_with fail
 go_loopw [5,6] (fun z _ wr=>∃ q:VM × Int,z=I_ q.2/\dZ wr K q.1/\cq K.ey w wr/\VM.sJ q Q)
  (fun z _ wr=>match C_ wr K.mb 10 with | some (.int _ n)=>PA (intOf z) n | _=>0)
 case atStart=>exact⟨p,rfl,T.out,O.out,s.out⟩
 case round =>
  obtain⟨q,rfl,a,o,Z⟩:=hrel;cases Z with
  | stop _ l =>
   obtain⟨u,e⟩:=Q;simp only at a l;have i:=h_ a;have g:=h_ o;have k:=a.m5;have j:=a.m13;clear a o;by_cases A:e=0
   . subst A
     by_cases b:u.ip=0
     . have I:(u.ip != 0)=false:=by simp[b]
       clear l b;go_wp2_with fail;go_ret;exact⟨rfl,i.out,g.out⟩
     . have I:(u.ip != 0)=true:=by simp[b]
       have c:u.dL=true:=by
        cases c:u.dL with
        | true=>rfl
        | false=>exact absurd ⟨rfl,b,c⟩ l
       rw[c]at j;clear l b c;go_wp2_with fail;go_ret;exact⟨rfl,i.out,g.out⟩
   . have d1:(e == 0)=false:=by simp[A]
     clear l A;go_wp2_with fail;go_ret;exact⟨rfl,i.out,g.out⟩
  | step u C ab r _ b c B L f m d =>
   simp only at a;have i:=h_ a;have g:=h_ o;have k:=a.m5;have j:=a.m13;have t:=h_ a.m10;rw[c]at j;have I:(u.ip != 0)=true:=by simp[b]
   have D:=h_ (kV K _ u i.out);rw[B]at D;have aa:=(VM.BV B).1;have G:=h_ fun V (Y:dZ V K C)=>BU K V C ab r Y L f m;have M:(VM.ez r).1.cI=u.cI-1:=by
    rw[VM.rv,f.cI];show C.cI-1=_;omega
   have E:=h_ (show PA (VM.ez r).2 (VM.ez r).1.cI<PA 0 u.cI by
    unfold PA;rw[M,if_pos rfl]
    split <;> omega)
   clear m;generalize VM.ez r=q at G d E;have s:=h_ d;clear a o b c B L f d M aa;go_wp2_with fail;refine nv (D.out) g ?_;intro w4 U P;try clear k;try clear y;try clear t;try clear j;try clear x
   go_wp2_with fail;refine nv (G.out _ U.out) P ?_;intro w5 H R;try clear k;try clear y;try clear t;try clear j;try clear x
   go_wp2_with fail;go_roundw;case rel=>exact⟨q,rfl,H.out,R.out,s.out⟩
   case measure =>
    have W:=H.out.m10;simp only[t.out,W,intOf];exact E.out
end
section
variable (G:Gk) (X:Nat->Prop) (w:World) (r:Rd)
theorem F6(xt:Int)(Q:VM × Int)(a:VM.Bt r.v xt Q)(h:ej w G X r):Calls prog 250 #[cD G.K.mb,I_ xt] w (PR G X w (r.vm Q)) :=
 (Qf G.K w r.v xt Q h.fv a).mono fun _ _ ⟨b,c,k⟩=>⟨b,X,h.vm c k,h.uc k⟩
theorem BW(d:Wd)(Q:Rd × Int)(v:r.comp=false)(x:¬ 0<r.oY d)(u:∀ V,ej V G X r->Calls prog 250 #[cD G.K.mb,I_ d.xt] V (PR G X V Q))(h:ej w G X r):Calls prog 143 #[cD G.ob,d.val] w (PR G X w Q):=by
 have c:=h_ fun V (E:ej V G X r)=>BO G X V r d E;have C:=h_ u;generalize r.oY d=k at x c;clear u;have n:=dR w (.cells #[I_ d.cM,I_ d.xt,I_ d.cP,S_ d.name] 53);have M:=h_ h.zw;have f:=h_ (h.cL n);have l:=h_ (ef.kt (X:=X) n);have a:=h_ (cx w (.cells #[I_ d.cM,I_ d.xt,I_ d.cP,S_ d.name] 53));obtain⟨W,m⟩:∃ W,W=w.alloc (.cells #[I_ d.cM,I_ d.xt,I_ d.cP,S_ d.name] 53):=⟨_,rfl⟩;rw[<- m]at f l a;have s:=h_ m;have L:=h_ (KJ d.cP);have F:=cp (i:=0) a.out rfl;have H:=cp (i:=1) a.out rfl;have I:=cp (i:=2) a.out rfl;have J:=cp (i:=3) a.out rfl;unfold Wd.val at c |-;clear h n m;go_enter func143,ntmps143;go_upto_region 1 with fail;rw[<- s.out];clear s;go_wp2_with fail;refine(c.out _ f.out).mono ?_;rintro e b ⟨rfl,j⟩;have g:=h_ (f.out.cL j);have A:=h_ (l.out.trans (ef.kt j));have q:=h_ (j.heap a.out id);have S:C_ b w.heap.size 1=some (I_ d.xt):=cp q.out rfl;have T:C_ b w.heap.size 2=some (I_ d.cP):=cp q.out rfl;clear j F H I J c f l a;have o:=g.out.o4;have y:=g.out.o0;have z:=g.out.v0;rw[v]at o;have O:decide (0<k)=false:=decide_eq_false (by omega);clear x v;go_wp2_with fail;go_still_tail 6,(by kernel_rfl);try change wpList _ _ _ _ _ b.drew
 have t:=h_ (g.out.cL (fw b));have p:=h_ (A.out.trans (ef.kt (fw b)));try clear y;try clear o;try clear z
 generalize b.drew=P at t p |-;go_wp2_with fail;refine ir (C.out _ t.out) p ?_;intro R N D B;try clear y;try clear o;try clear z
 go_wp2_with fail;go_ret;exact⟨rfl,_,D.out,B.out⟩
theorem zB(d:Wd)(y:r.comp=true)(z:d.cP % 2=0)(o:r.oY d≠2)(h:ej w G X r):Calls prog 143 #[cD G.ob,d.val] w (PR G X w (r.cN d.xt)):=by
 have c:=h_ fun V (m:ej V G X r)=>BO G X V r d m;have u:=h_ fun V (m:ej V G X r)=>pg G X V r d.xt m;generalize r.oY d=k at o c;generalize r.cN d.xt=P at u |-;have p:=dR w (.cells #[I_ d.cM,I_ d.xt,I_ d.cP,S_ d.name] 53);have L:=h_ h.zw;have f:=h_ (h.cL p);have l:=h_ (ef.kt (X:=X) p);have a:=h_ (cx w (.cells #[I_ d.cM,I_ d.xt,I_ d.cP,S_ d.name] 53));obtain⟨W,n⟩:∃ W,W=w.alloc (.cells #[I_ d.cM,I_ d.xt,I_ d.cP,S_ d.name] 53):=⟨_,rfl⟩;rw[<- n]at f l a;have v:=h_ n;have E:=h_ (KJ d.cP);have H:=cp (i:=0) a.out rfl;have I:=cp (i:=1) a.out rfl;have J:=cp (i:=2) a.out rfl;have K:=cp (i:=3) a.out rfl;unfold Wd.val at c |-;clear h p n;go_enter func143,ntmps143;go_upto_region 1 with fail;rw[<- v.out];clear v;go_wp2_with fail;refine(c.out _ f.out).mono ?_;rintro e b ⟨rfl,j⟩;have g:=h_ (f.out.cL j);have C:=h_ (l.out.trans (ef.kt j));have t:=h_ (j.heap a.out id);have S:C_ b w.heap.size 1=some (I_ d.xt):=cp t.out rfl;have T:C_ b w.heap.size 2=some (I_ d.cP):=cp t.out rfl;clear j H I J K c f l a;have q:=g.out.o4;have A:=g.out.o0;have B:=g.out.v0;rw[y]at q;have O:bits .and .i64 d.cP 1=0:=by rw[E.out];exact z
 have N:(k == 2)=false:=by simp[o]
 clear z y o;go_wp2_with fail;go_still_tail 9,(by kernel_rfl);try change wpList _ _ _ _ _ b.drew
 have x:=h_ (g.out.cL (fw b));have s:=h_ (C.out.trans (ef.kt (fw b)));try clear A;try clear q;try clear B
 generalize b.drew=Q at x s |-;go_wp2_with fail;refine ir (u.out _ x.out) s ?_;intro R M F D;try clear A;try clear q;try clear B
 go_wp2_with fail;go_ret;exact⟨rfl,_,F.out,D.out⟩
end
theorem zC(G:Gk)(X:Nat->Prop)(w:World)(r:Rd)(s a:List UInt8)(f:Nat)(g:QQ f)(p:(Rd.Jj f r).2=0)(U:s.length<=1000000)(P:cG s=a)(y:G.fm a=none)(x:il a=some (.plain f))(b:Gl w X)(h:ej w G X r) :
 Calls prog 77 #[cD G.ob,S_ s] w (PR G X w (Rd.Jj f r)):=by
 have D:=h_ fun V Y (b:Gl V Y) (N:ej V G Y r)=>g.ok G Y V r b N p;have T:∀ (o:Array Value) (w:World),(callFunc f o).run prog w=.ok (.enter f o) w:=g.L8;clear g p;have l:=h_ fun V=>iC V s (by omega);have O:=sL s;rw[P]at l O;have E:=h_ y;have F:=h_ b;have n:=h_ h;have A:=h_ (ef.refl w X);have c:=n.out.TW;clear h y b;go_enter func77,ntmps77;go_wp2_with fail;refine(l.out w).mono ?_;rintro e Q ⟨rfl,i⟩;have d:=h_ (n.out.cL i);have B:=h_ (A.out.trans (ef.kt i));clear i;try clear c
 have c:=d.out.TW
 go_wp2_with (first
  | (at_lookup;refine jd sk _ rfl _ _ 57 rfl _ underlying57 _ (rO _) G.mm G.nm G.fm rfl d.out.Sw a (show a.length<=maxLen by unfold maxLen;omega) rfl _ E.out ?_;dsimp only[Option.getD_none,Option.isSome_none]))
 refine(sY Q).mono ?_;rintro e R ⟨L,rfl,M,q,t,_,j⟩;have I:=h_ q;have H:=h_ (t a);have J:=h_ (d.out.cL j);have k:=h_ (B.out.trans (ef.kt j));clear q t j c;have u:=H.out;rw[x]at u;obtain⟨v,z,rfl⟩:=u;have m:=h_ z;clear z x;unfold hE at m
 go_wp2_with (first
  | (at_lookup;refine jd sk _ rfl _ _ 57 rfl _ underlying57 _ (rO _) L _ M rfl I.out a (show a.length<=maxLen by unfold maxLen;omega) rfl _ m.out ?_;dsimp only[Option.getD_some,Option.isSome_some]))
 refine ir (D.out R _ (F.out.uc k.out) J.out) k ?_;intro W S K C;try clear c
 go_wp2_with fail;go_ret;exact⟨rfl,_,K.out,C.out⟩
theorem sM(G:Gk)(X:Nat->Prop)(w:World)(r:Rd)(s q:List UInt8)(hs:s.length<=1000000)(am:cG s=q)(af:G.fm q=none)(hk:il q=none)(aa:Rd × Int)
 (j:match r.v.x.mem.find s r.eE with
   | some d=>∀ V Y,ej V G Y r->Calls prog 143 #[cD G.ob,d.val] V (PR G Y V aa)
   | none=>(dE.lH s r.v.oj).2=true/\aa=r.gX [(dE.lH s r.v.oj).1]) (hg:Gl w X) (ab:ej w G X r) :
 Calls prog 77 #[cD G.ob,S_ s] w (PR G X w aa):=by
 have aj:=h_ ab.ok.eE;have ah:=h_ fun V Y (hV:ej V G Y r)=>FE G.K V r.v hV.fv;have T:=h_ j;clear j;have HL:=h_ fun V=>iC V s (by omega);have al:=sL s;rw[am]at HL al;have HF:=h_ af;have au:=h_ hg;have R0:=h_ ab;have E0:=h_ (ef.refl w X);have A:=R0.out.TW;clear ab af hg;go_enter func77,ntmps77;go_wp2_with fail;refine(HL.out w).mono ?_;rintro e w1 ⟨rfl,k1⟩;have R1:=h_ (R0.out.cL k1);have E1:=h_ (E0.out.trans (ef.kt k1));clear k1;try clear A
 have A:=R1.out.TW
 go_wp2_with (first
  | (at_lookup;refine jd sk _ rfl _ _ 57 rfl _ underlying57 _ (rO _) G.mm G.nm G.fm rfl R1.out.Sw q (show q.length<=maxLen by unfold maxLen;omega) rfl _ HF.out ?_;dsimp only[Option.getD_none,Option.isSome_none]))
 refine(sY w1).mono ?_;rintro e w2 ⟨bW,rfl,fW,hW,ae,_,k2⟩;have HW:=h_ hW;have ai:=h_ (ae q);have o:=h_ (R1.out.cL k2);have E2:=h_ (E1.out.trans (ef.kt k2));clear hW ae k2 A;have ac:=ai.out;rw[hk]at ac;have HV:=h_ ac;clear ac hk;have R:=h_ fun V Y n (hV:ej V G Y r)=>tB G Y V r n hV
 go_wp2_with (first
  | (at_lookup;refine jd sk _ rfl _ _ 57 rfl _ underlying57 _ (rO _) bW _ fW rfl HW.out q (show q.length<=maxLen by unfold maxLen;omega) rfl _ HV.out ?_;dsimp only[Option.getD_none,Option.isSome_none]))
 obtain⟨y,z,C,ag⟩:=o.out.iG;have ak:=h_ ag;have B:=o.out.o0;have I:=o.out.v0;have J:=o.out.vs;obtain⟨aw,av,ax,_⟩:=o.out.sV;obtain⟨a,ao⟩:∃ a,a=w2:=⟨_,rfl⟩;subst ao;have m:=h_ fun V (k:K_ a V)=>FW G.K V r.v s y z r.eE (by omega) (ak.out V k) aj.out (o.out.fv.cL k);clear ag;cases U:r.v.x.mem.find s r.eE with
 | none =>
  have j:=T.out;rw[U]at m j;simp only at j;have L:=h_ j;clear U j T;go_upto_region 8 with fail
  go_cut [10,11] (fun v6 v7 Q=>∃ g:Nat,v6=cD g/\v7=.bool false/\eU g 0 0 0 [] Q/\K_ a Q)
  case first =>
   go_region_held3 (fun w'=>C_ w' G.ob 0=some (cD G.K.mb)/\C_ w' G.ob 2=some (.slice y r.eE.length z)/\C_ w' G.K.mb 0=some (cD G.K.s)/\C_ w' G.K.s 0=some (cD G.K.b))
    (first | go_keep)
    (first
      | (go_at_call 42;refine(m.out (a.alloc (.cells #[I_ 0,I_ 0,I_ 0,.string ⟨#[]⟩] 53)).drew ((dR a (.cells #[I_ 0,I_ 0,I_ 0,.string ⟨#[]⟩] 53)).trans (cq.drew _ _))).mono ?_;rintro e c ⟨rfl,l⟩;dsimp only[ot,Wd.val]
         have f:=((dR a (.cells #[I_ 0,I_ 0,I_ 0,.string ⟨#[]⟩] 53)).trans (fw _)).trans l;have h:=l.heap (show((a.alloc (.cells #[I_ 0,I_ 0,I_ 0,.string ⟨#[]⟩] 53)).drew).heap[a.heap.size]?=_ from cx a _) id;have N:C_ c G.ob 0=some (cD G.K.mb):=f.cell B id;have e2:C_ c G.ob 2=some (.slice y r.eE.length z):=f.cell C id;have O:C_ c G.K.mb 0=some (cD G.K.s):=f.cell I id;have P:C_ c G.K.s 0=some (cD G.K.b):=f.cell J id;have z0:C_ c a.heap.size 0=some (I_ 0):=cp h rfl;have z1:C_ c a.heap.size 1=some (I_ 0):=cp h rfl;have z2:C_ c a.heap.size 2=some (I_ 0):=cp h rfl;have z3:C_ c a.heap.size 3=some (.string ⟨#[]⟩):=cp h rfl;have q0:=cB (i:=0) h;have q1:=cB (i:=1) h;have q2:=cB (i:=2) h;have q3:=cB (i:=3) h;have n1:a.heap.size≠G.ob:=by omega
         have n2:a.heap.size≠G.K.mb:=by omega
         have n3:a.heap.size≠G.K.s:=by omega
         have ap:G.ob≠a.heap.size:=by omega
         have aq:G.K.mb≠a.heap.size:=by omega
         have ar:G.K.s≠a.heap.size:=by omega)
      | (go_at_call 42;refine(m.out a.drew (cq.drew _ _)).mono ?_;rintro e c ⟨rfl,l⟩;dsimp only[ot,Wd.val]
         have f:=(fw a).trans l;have N:C_ c G.ob 0=some (cD G.K.mb):=f.cell B id;have e2:C_ c G.ob 2=some (.slice y r.eE.length z):=f.cell C id;have O:C_ c G.K.mb 0=some (cD G.K.s):=f.cell I id;have P:C_ c G.K.s 0=some (cD G.K.b):=f.cell J id;have l1:=World.block_lt_of_cell? c _ N;have l2:=World.block_lt_of_cell? c _ O
         have l3:=World.block_lt_of_cell? c _ P))
   all_goals
    go_wp2_with fail;go_meet;refine⟨_,rfl,rfl,?_⟩
    first
     | (have hB:=lI (g:=a.heap.size) h (I_ 0) (I_ 0) (I_ 0) (.string ⟨#[]⟩)
        have kB:=ei f a.heap.size (I_ 0) (I_ 0) (I_ 0) (.string ⟨#[]⟩) (Nat.le_refl _)
        exact⟨hB,kB⟩)
     | (have hA:=cx c (.cells #[(I_ 0),(I_ 0),(I_ 0),(.string ⟨#[]⟩)] 53)
        have kA:=f.trans (dR c (.cells #[(I_ 0),(I_ 0),(I_ 0),(.string ⟨#[]⟩)] 53))
        exact⟨hA,kA⟩)
  case rest =>
   obtain⟨g,rfl,rfl,t,u⟩:=hcut;have M:=h_ (o.out.cL u);have Z:=h_ (E2.out.trans (ef.kt u));clear t u B C I J m;have W:=M.out.o0;go_wp2_with fail;refine(ah.out wc _ M.out).mono ?_;rintro e c ⟨rfl,l⟩;have R4:=h_ (M.out.cL l);have E4:=h_ (Z.out.trans (ef.kt l));clear l;try clear W;try clear A
   go_wp2_with fail;have S:=h_ (Hy c s r.v.oj (by omega));generalize r.v.oj=bs at S L;generalize dE.lH s bs=p at S L;obtain⟨n,ok⟩:=p;simp only at S L;obtain⟨an,j⟩:=L.out;subst an;refine(S.out).mono ?_;rintro e w5 ⟨rfl,k5⟩;have R5:=h_ (R4.out.cL k5);have E5:=h_ (E4.out.trans (ef.kt k5));clear k5;try clear W;try clear A
   replace R:=h_ (R.out w5 _ n R5.out);rw[<- j]at R;clear j L;go_wp2_with fail;refine ir (R.out) E5 ?_;intro w6 X6 R6 E6;try clear W;try clear A
   go_wp2_with fail;go_ret;exact⟨rfl,_,R6.out,E6.out⟩
 | some d =>
  have j:=T.out;rw[U]at m j;simp only at j;have ad:=h_ j;clear U j T;obtain⟨D,H,E,F⟩:=d;unfold Wd.val at ad;go_upto_region 8 with fail
  go_cut [10,11] (fun v6 v7 Q=>∃ g:Nat,v6=cD g/\v7=.bool true/\eU g D H E F Q/\K_ a Q)
  case first =>
   go_region_held3 (fun w'=>C_ w' G.ob 0=some (cD G.K.mb)/\C_ w' G.ob 2=some (.slice y r.eE.length z)/\C_ w' G.K.mb 0=some (cD G.K.s)/\C_ w' G.K.s 0=some (cD G.K.b))
    (first | go_keep)
    (first
      | (go_at_call 42;refine(m.out (a.alloc (.cells #[I_ 0,I_ 0,I_ 0,.string ⟨#[]⟩] 53)).drew ((dR a (.cells #[I_ 0,I_ 0,I_ 0,.string ⟨#[]⟩] 53)).trans (cq.drew _ _))).mono ?_;rintro e c ⟨rfl,l⟩;dsimp only[ot,Wd.val]
         have f:=((dR a (.cells #[I_ 0,I_ 0,I_ 0,.string ⟨#[]⟩] 53)).trans (fw _)).trans l;have h:=l.heap (show((a.alloc (.cells #[I_ 0,I_ 0,I_ 0,.string ⟨#[]⟩] 53)).drew).heap[a.heap.size]?=_ from cx a _) id;have N:C_ c G.ob 0=some (cD G.K.mb):=f.cell B id;have e2:C_ c G.ob 2=some (.slice y r.eE.length z):=f.cell C id;have O:C_ c G.K.mb 0=some (cD G.K.s):=f.cell I id;have P:C_ c G.K.s 0=some (cD G.K.b):=f.cell J id;have z0:C_ c a.heap.size 0=some (I_ 0):=cp h rfl;have z1:C_ c a.heap.size 1=some (I_ 0):=cp h rfl;have z2:C_ c a.heap.size 2=some (I_ 0):=cp h rfl;have z3:C_ c a.heap.size 3=some (.string ⟨#[]⟩):=cp h rfl;have q0:=cB (i:=0) h;have q1:=cB (i:=1) h;have q2:=cB (i:=2) h;have q3:=cB (i:=3) h;have n1:a.heap.size≠G.ob:=by omega
         have n2:a.heap.size≠G.K.mb:=by omega
         have n3:a.heap.size≠G.K.s:=by omega
         have ap:G.ob≠a.heap.size:=by omega
         have aq:G.K.mb≠a.heap.size:=by omega
         have ar:G.K.s≠a.heap.size:=by omega)
      | (go_at_call 42;refine(m.out a.drew (cq.drew _ _)).mono ?_;rintro e c ⟨rfl,l⟩;dsimp only[ot,Wd.val]
         have f:=(fw a).trans l;have N:C_ c G.ob 0=some (cD G.K.mb):=f.cell B id;have e2:C_ c G.ob 2=some (.slice y r.eE.length z):=f.cell C id;have O:C_ c G.K.mb 0=some (cD G.K.s):=f.cell I id;have P:C_ c G.K.s 0=some (cD G.K.b):=f.cell J id;have l1:=World.block_lt_of_cell? c _ N;have l2:=World.block_lt_of_cell? c _ O
         have l3:=World.block_lt_of_cell? c _ P))
   all_goals
    go_wp2_with fail;go_meet;refine⟨_,rfl,rfl,?_⟩
    first
     | (have hB:=lI (g:=a.heap.size) h (I_ D) (I_ H) (I_ E) (S_ F)
        have kB:=ei f a.heap.size (I_ D) (I_ H) (I_ E) (S_ F) (Nat.le_refl _)
        exact⟨hB,kB⟩)
     | (have hA:=cx c (.cells #[(I_ D),(I_ H),(I_ E),(S_ F)] 53)
        have kA:=f.trans (dR c (.cells #[(I_ D),(I_ H),(I_ E),(S_ F)] 53))
        exact⟨hA,kA⟩)
  case rest =>
   obtain⟨g,rfl,rfl,t,u⟩:=hcut;have x0:C_ wc g 0=some (I_ D):=cp t rfl;have x1:C_ wc g 1=some (I_ H):=cp t rfl;have x2:C_ wc g 2=some (I_ E):=cp t rfl;have x3:C_ wc g 3=some (S_ F):=cp t rfl;have M:=h_ (o.out.cL u);have Z:=h_ (E2.out.trans (ef.kt u));clear t u B C I J m;go_wp2_with fail;refine ir (ad.out wc _ M.out) Z ?_;intro c X4 R4 E4;try clear W;try clear A
   go_wp2_with fail;go_ret;exact⟨rfl,_,R4.out,E4.out⟩
theorem MW{f:Nat}(h:f=217\/f=218\/f=248):QQ f:=by
 rcases h with rfl | rfl | rfl
 . exact⟨fun a w=>call217 a w,fun G X w r _ h b=>IT G X w r h b⟩
 . exact⟨fun a w=>call218 a w,fun G X w r _ h b=>wS G X w r h b⟩
 . exact⟨fun a w=>call248 a w,fun G X w r _ h b=>MV G X w r h b⟩
set_option maxRecDepth 100000
open Go.RowKit Go.Proofs.tI
theorem drop_zero(s:dK)(h:0<=s.gm):(s.drop 0).1={ s with depth:=0 }:=by
 unfold dK.drop;rw[if_neg (by omega),if_neg (by omega)]
theorem El(v:VM)(e:Int)(a:0<=v.d.gm)(b:0<=v.r.gm):Rd.eK v e={ v.put (Rd.eW e)with d:={ v.d with depth:=0 },r:={ v.r with depth:=0 } }:=by
 show({ v.put (Rd.eW e)with d:=(v.d.drop 0).1,r:=(v.r.drop 0).1 }:VM)=_;rw[drop_zero _ a,drop_zero _ b]
open Go.Proofs.tI
def UB(L:List Wd):List UInt8->Option Int:=L.foldl (fun f d=>fun s=>if s=d.name then some d.xt else f s) (fun _=>none)
def SC(v:VM):Rd:=⟨v,UB (v.x.mem.fR v.cF),[],0,[v.cF],[],false,false,Wd.none,Wd.none,0,0,false⟩
namespace NZ
def m1(d t r h:Int):Mem:=(dP.put (Mem.zero (d+t*8+r*8+h).toNat) ⟨d+t*8+r*8,h,false⟩).1
def x1(d t r h:Int):Sp:=(Class.root ⟨m1 d t r h,8,d,8⟩).1
def y(d t r h:Int):Sp:=match Vm.qT (x1 d t r h)with | some r=>r.1 | none=>⟨⟨0,0⟩,0,0,0⟩
structure MX(d t r h:Int):Prop where
 ok:AY d t r h (m1 d t r h) (x1 d t r h) (y d t r h) 8 16 24 2824
 sz:(y d t r h).mem.size=(d+t*8+r*8+h).toNat
 dD:(y d t r h).mem.cell 16=(10,0)
end NZ
set_option maxRecDepth 10000
theorem MY(L:List Wd)(f:List UInt8->Option Int)(F:List UInt8->Option Value)(h:∀ s,F s=(f s).map (Value.int .i64))(s:List UInt8) :
 L.foldl LV F s=(L.foldl (fun f d=>fun s=>if s=d.name then some d.xt else f s) f s).map (Value.int .i64):=by
 induction L generalizing f F with
 | nil=>exact h s
 | cons d L a =>
  rw[List.foldl_cons,List.foldl_cons];refine a _ _ (fun s=>?_);unfold LV ny;by_cases e:s=d.name
  . rw[if_pos e,if_pos e];rfl
  . rw[if_neg e,if_neg e];exact h s
theorem MZ(L:List Wd):L.foldl LV (fun _=>none)=fun s=>(UB L s).map (Value.int .i64):=funext fun s=>MY L (fun _=>none) (fun _=>none) (fun _=>rfl) s
theorem SE{w:World}{e:TypeId}{d n c g:Nat}{f:List Value}(h:fp w e d (some ⟨g,0,none⟩) n c f):g<w.heap.size:=by
 rcases h.jK with⟨a,_⟩ | ⟨i,cur,a,b,_⟩
 . cases a
 . cases a
   exact cA b
set_option maxRecDepth 100000
namespace wT
theorem BY{c a:Type}{p:c × a}{b:a}(h:p.2=b):p=(p.1,b):=Prod.ext rfl h
def Qg(v:VM)(xt:Int):Option (VM × Int) :=
 if v.cell xt=(1001,0)then some (v.fA xt)
 else if v.cell xt=(1003,0)/\(v.cell (xt+8)).2=0 then some (v.push [(v.cell (xt+8)).1])
 else if v.cell xt=(1005,0)/\(v.cell (xt+8)).2=0 then some (v.push [wrap64 ((v.cell (xt+8)).1+v.dU)])
 else if(v.cell xt).2=0 then
  match ky (fc (v.cell xt).1)with
  | some pk=>if VM.lP pk=true then some (VM.Fb VM.zL pk v)else none
  | none=>none
 else none
theorem F7{v:VM}{xt:Int}{q:VM × Int}(h:Qg v xt=some q):VM.jz v xt q:=by
 unfold Qg at h;split at h
 . rename_i a;cases h;exact .pW a
 split at h
 . rename_i a;cases h;exact .value _ a.1 (BY a.2)
 split at h
 . rename_i a;cases h;exact .field _ a.1 (BY a.2)
 split at h
 . rename_i a
   split at h
   . rename_i pk b
     split at h
     . rename_i c;cases h;exact .PH _ pk (BY a) b c
     . cases h
   . cases h
 . cases h
def F8:Nat->VM × Int->Option (VM × Int)
 | 0,_=>none
 | n+1,q =>
  if q.2=0/\q.1.ip≠0/\q.1.dL=false then
   if q.1.inline.2.2=0/\0<q.1.inline.1.cI then
    match Qg { q.1.inline.1 with cI:=q.1.inline.1.cI-1 } q.1.inline.2.1 with
    | some p=>if(VM.ez p).2=0 then F8 n (VM.ez p)else none
    | none=>none
   else none
  else some q
theorem BZ:∀ {n:Nat} {q Q:VM × Int},F8 n q=some Q->VM.sJ q Q
 | 0,_,_,h=>by cases h
 | n+1,(v,e),Q,h=>by
  unfold F8 at h;split at h
  . rename_i h1
    obtain⟨e0,h1,h2⟩:=h1;have e0:e=0:=e0;subst e0;split at h
    . rename_i h3
      split at h
      . rename_i p hp
        split at h
        . rename_i h4
          exact .step v _ _ p Q h1 h2 (Prod.ext rfl (Prod.ext rfl h3.1)) h3.2 (F7 hp) h4 (BZ h)
        . cases h
      . cases h
    . cases h
  . rename_i h1
    cases h
    exact .stop _ h1
def Qh(v:VM)(xt:Int):Option (VM × Int) :=
 if 0<v.cI then
  match Qg { v with ip:=0,dU:=0,cC:=0,cI:=v.cI-1 } xt with
  | some q=>if(VM.ez q).2=0 then F8 100 (VM.ez q)else none
  | none=>none
 else none
theorem F9{v:VM}{xt:Int}{Q:VM × Int}(h:Qh v xt=some Q):VM.Bt v xt Q:=by
 unfold Qh at h;split at h
 . rename_i a
   split at h
   . rename_i q c
     split at h
     . rename_i b;exact⟨a,q,F7 c,b,BZ h⟩
     . cases h
   . cases h
 . cases h
def M0(r:Rd)(s:List UInt8)(n:Int):Option (Rd × Int) :=
 if r.comp=true then some (r.di s [n])
 else
  let a:=r.vm (r.v.fB r.v.x.align)
  let b:=a.1.cN 1001
  let c:=b.1.di s [n]
  let d:=c.1.di [101,120,105,116] []
  if a.2=0/\b.2=0/\c.2=0/\d.2=0 then(Qh d.1.v a.1.v.x.cu).map fun P=>d.1.vm P else none
theorem M7{r:Rd}{s:List UInt8}{n:Int}{Q:Rd × Int}(h:M0 r s n=some Q):xV r s n Q:=by
 unfold M0 at h;split at h
 . rename_i b;cases h;exact .inl ⟨b,rfl⟩
 . rename_i b
   dsimp only at h;split at h
   . rename_i a
     obtain⟨P,c,e⟩:=Option.map_eq_some_iff.1 h;exact .inr ⟨by simpa using b,_,_,_,_,P,BY a.1,BY a.2.1,BY a.2.2.1,BY a.2.2.2,F9 c,e⟩
   . cases h
def M8(s:List UInt8)(q:Rd × Oo):Option ((Rd × Oo) × Int) :=
 match gr (cG s)with
 | some k =>
  if k=160\/k=162\/k=163\/k=164\/k=165\/k=170\/k=171 then some (Oo.Wf k q)
  else if k=161/\q.2.eH.isEmpty=true then some (Oo.iS q)
  else if k=168/\(Oo.cR q).2.2=0 then(M0 (Oo.cR q).1.1 [40,115,101,110,100,41] (Oo.cR q).2.1).map fun Q=>((Q.1,(Oo.cR q).1.2),Q.2)
  else none
 | none =>
  if(il (cG s)).isNone=true then
   match q.1.v.x.mem.find s q.1.eE with
   | some d =>
    if q.1.comp=true then(if d.cP % 2=0/\q.1.oY d≠2 then some (((q.1.cN d.xt).1,q.2),(q.1.cN d.xt).2)else none)
    else(if ¬ 0<q.1.oY d then(Qh q.1.v d.xt).map fun Q=>(((q.1.vm Q).1,q.2),Q.2)else none)
   | none=>none
  else none
theorem M9{s:List UInt8}{q:Rd × Oo}{Q:(Rd × Oo) × Int}(h:M8 s q=some Q):ig s q Q:=by
 unfold M8 at h;split at h
 . rename_i k b
   split at h
   . rename_i c;cases h;exact .obj k b c
   split at h
   . rename_i c
     obtain⟨rfl,a⟩:=c;cases h;exact .Sm b (List.isEmpty_iff.1 a)
   split at h
   . rename_i c
     obtain⟨rfl,a⟩:=c;obtain⟨P,g,e⟩:=Option.map_eq_some_iff.1 h;rw[<- e];exact .send P b a (M7 g)
   . cases h
 . rename_i b
   split at h
   . rename_i f
     have f:=Option.isNone_iff_eq_none.1 f;split at h
     . rename_i d j
       split at h
       . rename_i i
         split at h
         . rename_i a;cases h;exact .comp d b f j i a.1 a.2
         . cases h
       . rename_i i
         split at h
         . rename_i a
           obtain⟨P,g,e⟩:=Option.map_eq_some_iff.1 h;rw[<- e];exact .run d P b f j (by simpa using i) a (F9 g)
         . cases h
     . cases h
   . cases h
def F':Nat->(Rd × Oo) × Int->Option ((Rd × Oo) × Int)
 | 0,_=>none
 | n+1,(q,l) =>
  if q.1.v.dL=false then
   if q.1.dt=[] then some ((q.1.next,q.2),l)
   else if 0<q.1.v.cI then
    match M8 q.1.dt (Oo.cH q)with
    | some p=>if p.2=0/\p.1.1.v.cI<q.1.v.cI then F' n (p.1,l)else none
    | none=>none
   else none
  else none
theorem B':∀ {n:Nat} {q Q:(Rd × Oo) × Int},F' n q=some Q->fH q Q
 | 0,_,_,h=>by cases h
 | n+1,(q,l),Q,h=>by
  unfold F' at h;split at h
  . rename_i h0
    split at h
    . rename_i h1;cases h;exact .done q l h0 h1
    . rename_i h1
      split at h
      . rename_i h2
        split at h
        . rename_i p hp
          split at h
          . rename_i h3
            exact .ok q p.1 l Q h0 h1 h2 (BY h3.1 ▸ M9 hp) h3.2 (B' h)
          . cases h
        . cases h
      . cases h
  . cases h
theorem pE:NZ.MX 12000 20 20 400:=⟨⟨by decide,by decide,by decide,by decide,by decide,by decide,by decide,by decide +kernel,by decide +kernel,by decide +kernel⟩,by decide +kernel,by decide +kernel⟩
def src:List UInt8:=[99,108,97,115,115,32,97,32,45,32,105,118,97,114,32,120,32,109,101,116,104,111,100,32,103,101,116,32,120,32,64,32,101,110,100,109,32,101,110,100,99,108,97,115,115,32,97,32,110,101,119,32,45,62,32,103,101,116,32,46]
def XE:VM:={ VM.fresh 12000 20 20 4 400 [] (NZ.y 12000 20 20 400) 8 16 24 2824 with cI:=200 }
def qE:Rd × Oo:=(SC XE,Oo.start)
theorem SF:(F' 40 ((qE.1.again src,qE.2),0)).map (fun Q=>(Q.2,Q.1.1.v.out))=some (0,[48,32]):=by decide +kernel
theorem zD:∃ Q:(Rd × Oo) × Int,fH ((qE.1.again src,qE.2),0) Q/\Q.2=0/\Q.1.1.v.out=[48,32]:=by
 obtain⟨Q,h,e⟩:=Option.map_eq_some_iff.1 SF;exact⟨Q,B' h,congrArg Prod.fst e,congrArg Prod.snd e⟩
end wT
set_option maxRecDepth 10000
open Class (dG)
namespace Fo
variable {pf:List UInt8->Option Int} {dM:List Act} {TL:List dr} {D:eF} {S:List (List UInt8)} {τ:Nat->Int} {x1:Int} {q:Q} {f:Int}
def cl(r:Rd)(w:Wd)(h a:Int):Rd:={ r with comp:=true,eC:=w,cu:=h,cF:=a,is:=true }
structure Sc(pf:List UInt8->Option Int)(D:eF)(S:List (List UInt8))(f:Int)(w:Wd)(h a:Int)(q:Q):Prop where
 eq:∃ r,q.1=cl r w h a/\St pf D S 0 none f (r,q.2)
 hd:∃ ws,D.ws=w :: ws
theorem M'(r:Rd)(j:D.In r.v.x){nm:List UInt8}(n:Src.d' nm=true)(l:nm.length<=31)(c a:Int)(k:dB c)(g:0<=a)(h:a<=255)(A:r.v.x.cu+80<=60000) :
 ∃ (x':Sp) (w:Wd),r.make 24 nm c a []=({ r with v:={ r.v with x:=x' },ea:=w },w,0)/\w.name=cG nm/\w.cP=a/\w.xt+8=x'.cu/\r.v.x.cu<=x'.cu/\x'.cu<=r.v.x.cu+56 /\
  eF.In { D with ws:=w :: D.ws,fx:=(w.xt,c) :: D.fx } x'/\x'.mem.size=r.v.x.mem.size/\∀ b,b≠24->b<r.v.x.cu->x'.mem.cell b=r.v.x.mem.cell b:=by
 have m:nm≠[]:=fun e=>by rw[e]at n;cases n
 obtain⟨x1,w,d,o,p,z,s,t,i⟩:=j.cO nm a c m l g h k (by omega);have u:=j.zq nm a c m l g h k (by omega) d;have B:=i.iQ w (by simp);have y:r.gI 24 nm c a []=({ r with v:={ r.v with x:=x1 } },0):=by
  unfold Rd.gI Rd.kf;rw[d,if_neg (by simp)];rfl
 refine⟨x1,w,?_,o,p,s,by omega,t,i,u⟩;unfold Rd.make;rw[y,if_neg (by simp),d]
theorem vS(h:St pf D S 0 none f q){nm t:List UInt8}(z:Src.d' nm=true)(G:nm.length<=31)(hp:gY q (nm++32 :: t))(hr:q.1.v.x.cu+80<=60000) :
 ∃ (r:Rd) (w:Wd),q.1.pW=(r,0)/\w.name=cG nm/\w.cP=2/\w.xt+8=r.v.x.cu/\gY (r,q.2) t/\r.v.x.cu<=q.1.v.x.cu+56 /\
  Sc pf { D with ws:=w :: D.ws,fx:=(w.xt,1001) :: D.fx } S f w q.1.v.x.cu (q.1.v.x.mem.cell 24).1 (r,q.2)/\r.v.x.mem.size=q.1.v.x.mem.size/\(∀ b,b≠24->b<q.1.v.x.cu->r.v.x.mem.cell b=q.1.v.x.mem.cell b)/\q.1.v.x.cu<=r.v.x.cu:=by
 obtain⟨N,j,E⟩:=h.skip hp z;have Y:=h.UA rfl rfl;obtain⟨i,u⟩:∃ i:Rd,i=q.1.next:=⟨_,rfl⟩;rw[<- u]at j E;have I:i.v=q.1.v:=by rw[u];rfl
 have ad:i.comp=false:=j.comp;have R:i.eM=false:=j.eM;have P:i.dy=[]:=j.dy;have O:i.is=false:=j.UA rfl rfl;obtain⟨o,y⟩:∃ o:Rd,o={ i with cu:=q.1.v.x.cu,cF:=(q.1.v.cell q.1.v.cF).1,is:=true }:=⟨_,rfl⟩;have A:o.v=q.1.v:=by rw[y];exact I
 obtain⟨x',w,J,m2,m3,m4,K,L,m7,C⟩:=M' o (by rw[A];exact h.fQ) z G 1001 2 (by unfold dB;omega) (by decide) (by decide) (by rw[A];exact hr);rw[A]at K L C;obtain⟨s,H⟩:∃ s:Rd,s={ o with v:={ o.v with x:=x' },ea:=w }:=⟨_,rfl⟩;rw[<- H]at J;have Z:q.1.cY.next=o:=by
  rw[y,u];unfold Rd.cY;rw[if_neg (by rw[Y];simp)];rfl
 have aa:q.1.cY.name=(q.1.cY.next,nm,0):=by
  refine jZ ?_ z G;have F:=Ec q.1;show(Src.dA q.1.cY.src q.1.cY.cM).1=nm;rw[F.2.1,F.2.2.1];exact N
 have W:q.1.cY.cO 1001 2 []=(s,w,0):=by
  unfold Rd.cO;rw[aa,if_neg (by simp)];simp only;have ab:q.1.cY.v.cF=24:=by rw[(Ec q.1).1];exact h.cF
  rw[Z,ab];exact J
 obtain⟨c,m⟩:∃ c:Rd,c={ i with v:={ i.v with x:=x' },ea:=w }:=⟨_,rfl⟩;have V:({ s with eC:=w }:Rd).start false=cl c w q.1.v.x.cu (q.1.v.x.mem.cell 24).1:=by
  rw[H,y,m];unfold cl Rd.start;have U:(q.1.v.cell q.1.v.cF).1=(q.1.v.x.mem.cell 24).1:=by rw[h.cF];rfl
  rw[U];simp only[R,P]
 refine⟨cl c w q.1.v.x.cu (q.1.v.x.mem.cell 24).1,w,?_,m2,m3,?_,?_,?_,⟨⟨c,rfl,?_⟩,D.ws,rfl⟩,by show c.v.x.mem.size=_/\(∀ b,b≠24->b<q.1.v.x.cu->c.v.x.mem.cell b=_)/\_<=c.v.x.cu;rw[m];exact⟨C.1,C.2,K⟩⟩
 . unfold Rd.pW
   rw[if_neg (by rw[h.comp];simp),W,if_neg (by simp),<- V]
 . show w.xt+8=c.v.x.cu;rw[m];exact m4
 . show c.src.drop c.cM=t;rw[m];exact E
 . show c.v.x.cu<=_;rw[m];exact L
 . obtain⟨ls,B,l2,l3⟩:=j.eE
   have B:i.eE=ls++[24]:=B;have k:∀ {α:Type} (g:VM->α),(∀ v x,g { v with x:=x }=g v)->g c.v=g q.1.v:=fun g X=>by
    have M:g c.v=g i.v:=by rw[m];exact X i.v x'
    rw[M,I]
   have n:c.pf=i.pf/\c.comp=i.comp/\c.eM=i.eM/\c.dy=i.dy/\c.eE=i.eE/\c.is=i.is/\c.v.x=x':=by rw[m];exact⟨rfl,rfl,rfl,rfl,rfl,rfl,rfl⟩
   refine⟨by show eF.In _ c.v.x;rw[n.2.2.2.2.2.2];exact m7,(k VM.dD (fun _ _=>rfl)).trans h.dD,(k VM.cF (fun _ _=>rfl)).trans h.cF,(k VM.root (fun _ _=>rfl)).trans h.root,(k VM.cy (fun _ _=>rfl)).trans h.cy,(k VM.dL (fun _ _=>rfl)).trans h.dL,(k VM.cV (fun _ _=>rfl)).trans h.cV,(k VM.d (fun _ _=>rfl)).trans h.dd,(k VM.r (fun _ _=>rfl)).trans h.rr,(k VM.cI (fun _ _=>rfl)).trans h.cI,
    n.1.trans j.Iu,n.2.1.trans j.comp,n.2.2.1.trans j.eM,n.2.2.2.1.trans j.dy,⟨ls,n.2.2.2.2.1.trans B,fun a T=>List.mem_cons_of_mem _ (l2 a T),l3⟩,j.eN,fun e=>absurd rfl e,(fun _ _ _ e=>by cases e),j.eH,fun p l ac=>List.mem_cons_of_mem _ (j.tO p l ac),fun a b=>n.2.2.2.2.2.1.trans O,j.eb⟩
variable {w:Wd} {h0 a0:Int}
theorem Sc.go(h:Sc pf D S f w h0 a0 q){s t:List UInt8}(i:gY q (s++32 :: t))(k:Src.d' s=true):q.1.dt=s/\Sc pf D S (f-1) w h0 a0 (Oo.cH q)/\gY (Oo.cH q) t/\q.1.v.dL=false/\q.1.v.cI=f:=by
 obtain⟨⟨r,e,a⟩,g⟩:=h;have j:gY (r,q.2) (s++32 :: t):=by
  have:q.1.src.drop q.1.cM=s++32 :: t:=i;rw[e]at this;exact this
 obtain⟨b,c,d⟩:=a.go j k;refine⟨by rw[e];exact b,⟨⟨(Oo.cH (r,q.2)).1,?_,c⟩,g⟩,?_,by rw[e];exact a.dL,by rw[e];exact a.cI⟩
 . show(Oo.cH q).1=_
   unfold Oo.cH;rw[e];rfl
 . have:gY (Oo.cH (r,q.2)) t:=d
   show(Oo.cH q).1.src.drop (Oo.cH q).1.cM=t;unfold Oo.cH;rw[e];exact this
theorem Sc.eR(h:Sc pf D S f w h0 a0 q){t:List UInt8}(j:gY q t)(l:List Int)(i:∀ n ∈ l,dB n)(k:q.1.v.x.cu+8*l.length<=60000) :
 ∃ r,Rd.eR l q.1=(r,0)/\gY (r,q.2) t/\r.v.x.cu=q.1.v.x.cu+8*l.length/\Sc pf (D.fJ q.1.v.x.cu l) S f w h0 a0 (r,q.2):=by
 obtain⟨⟨r,e,a⟩,ws,g⟩:=h;have m:q.1.v=r.v:=by rw[e];rfl
 obtain⟨x',b,c,d⟩:=kZ l q.1 (by rw[m];exact a.fQ) i k;obtain⟨p,s,u,o⟩:=eF.dO l D q.1.v.x.cu;refine⟨_,b,j,c,⟨{ r with v:={ r.v with x:=x' } },by rw[e];rfl,a.put d⟩,ws,by rw[o];exact g⟩
theorem Sc.di(h:Sc pf D S f w h0 a0 q){t:List UInt8}(p:gY q t){s:List UInt8}{k:Int}(j:pf s=some k)(m:dB k){l:List Int}(o:∀ n ∈ l,dB n)(y:q.1.v.x.cu+8*(l.length+1)<=60000) :
 ∃ r,q.1.di s l=(r,0)/\gY (r,q.2) t/\r.v.x.cu=q.1.v.x.cu+8*(l.length+1)/\Sc pf (D.fJ q.1.v.x.cu (k :: l)) S f w h0 a0 (r,q.2):=by
 have u:q.1.xt s=k:=by
  obtain⟨⟨r,e,i⟩,_⟩:=h;unfold Rd.xt;rw[e];show(r.pf s).getD 0=k;have:r.pf=pf:=i.Iu;rw[this,j];rfl
 obtain⟨r,b,c,d,g⟩:=h.eR p (k :: l) (fun n a=>by rcases List.mem_cons.1 a with rfl | a;exact m;exact o n a) (by rw[List.length_cons];omega);refine⟨r,?_,c,by rw[d,List.length_cons];omega,g⟩;unfold Rd.di;rw[u];exact b
theorem Sc.dA(h:Sc pf D S f w h0 a0 q){s t:List UInt8}(K:gY q t)(d:gr (cG s)=none)(i:il (cG s)=none){u:Wd}(F:Mem.dv D.ws (cG s)=some u)(G:u.cP=0){c:Int}(H:(u.xt,c) ∈ D.fx)(I:Rd.iU (fc c)≠2)(l:dB u.xt)(n:q.1.v.x.cu+8<=60000) :
 ∃ p,ig s q (p,0)/\gY p t/\p.1.v.x.cu=q.1.v.x.cu+8/\Sc pf (D.fJ q.1.v.x.cu [u.xt]) S f w h0 a0 p/\p.1.v.x.mem.size=q.1.v.x.mem.size/\(∀ b,b<q.1.v.x.cu->p.1.v.x.mem.cell b=q.1.v.x.mem.cell b)/\p.2=q.2:=by
 obtain⟨r,a,B,C,E⟩:=h.eR K [u.xt] (jR l) (by simpa using n);obtain⟨⟨A,e,g⟩,_⟩:=h;obtain⟨ls,L,M,_⟩:=g.eE;have k:q.1.v=A.v/\q.1.eE=A.eE/\q.1.comp=true:=by rw[e];exact⟨rfl,rfl,rfl⟩
 have m:q.1.cN u.xt=(r,0):=by
  unfold Rd.eR Rd.bind at a;by_cases h0:(q.1.cN u.xt).2≠0
  . rw[if_pos h0]at a;exact a
  . rw[if_neg h0]at a
    have h0:(q.1.cN u.xt).2=0:=by simpa using h0
    exact Prod.ext (congrArg (fun z=>z.1) a) h0
 have j:D.In q.1.v.x:=by rw[k.1];exact g.fQ
 have y:r.v.x=q.1.v.x.wr [u.xt]:=by
  have d:=congrArg (fun z=>z.1.v.x) m;have i:(q.1.v.x.cN u.xt).1=r.v.x:=d;rw[<- i,(j.cN u.xt l n).1]
 refine⟨(r,q.2),?_,B,by simpa using C,E,by show r.v.x.mem.size=_;rw[y];exact Mem.gE _ _ _,(fun b J=>by show r.v.x.mem.cell b=_;rw[y];exact Mem.gU _ _ _ _ (.inl J)),rfl⟩
 have o:=ig.comp (s:=s) (q:=q) u d i (by rw[k.2.1,L,nW j s M,F]) k.2.2 (by rw[G];rfl) (by
  show Rd.iU (fc (q.1.v.x.mem.cell u.xt).1)≠2;rw[j.cell H]
  exact I)
 rw[m]at o;exact o
theorem Em(r a:Rd)(h:(r.mark r.eC 0).1=a)(b:a.eE.length=1):r.mh=({ a with ea:=r.eC }:Rd).oB:=by
 unfold Rd.mh;rw[h];exact if_pos b
theorem Sc.T7(aa:Sc pf D S f w h0 a0 q){t:List UInt8}(hp:gY q t){k:Int}(hk:pf [101,120,105,116]=some k)(ac:dB k)(hr:q.1.v.x.cu+8<=60000) :
 ∃ r ws,q.1.kY=(r,0)/\gY (r,q.2) t/\r.v.x.cu=q.1.v.x.cu+8/\D.ws=w :: ws/\St pf { D.fJ q.1.v.x.cu [k] with ws:={ w with cP:=0 } :: ws } S 0 none f (r,q.2):=by
 obtain⟨⟨i,e,g⟩,ws,K⟩:=aa;have g1:i.comp=false:=g.comp;have I:i.eM=false:=g.eM;have J:i.dy=[]:=g.dy;have g4:i.is=false:=g.UA rfl rfl;obtain⟨ls,A,l2,l3⟩:=g.eE;have A:i.eE=[24]:=by rw[show i.eE=ls++[24] from A,l3 rfl rfl];rfl
 have P:q.1.stop=({ q.1 with comp:=false },0):=by
  unfold Rd.stop;rw[if_neg (by rw[e];show ¬ (true=false\/i.dy≠[]);rw[J];simp)]
 obtain⟨b,N⟩:∃ b:Rd,b={ q.1 with comp:=false }:=⟨_,rfl⟩;rw[<- N]at P;have o:b.v=i.v/\b.v=q.1.v/\b.pf=i.pf/\b.src=q.1.src/\b.cM=q.1.cM/\b.eE=[24]/\b.dy=[]/\b.comp=false/\b.eM=false/\b.eC=w:=by
  rw[N,e];exact⟨rfl,rfl,rfl,rfl,rfl,A,J,rfl,I,rfl⟩
 obtain⟨o,E,G,Z,f5,H,f7,f8,f9,Y⟩:=o;obtain⟨x',B,C,s⟩:=kZ [k] b (by rw[o];exact g.fQ) (jR ac) (by rw[E];simpa using hr);rw[E]at C s;obtain⟨p1,p2,p3,U⟩:=eF.dO [k] D q.1.v.x.cu;have V:=eF.fI [k] D q.1.v.x.cu;generalize ai:D.fJ q.1.v.x.cu [k]=D' at s p1 p2 p3 U V |-;obtain⟨m',m1,m2⟩:=s.mark (w:=w) (ws:=ws) (by rw[U];exact K) 0 (by decide) (by decide);obtain⟨c,m⟩:∃ c:Rd,c={ b with v:={ b.v with x:=x' } }:=⟨_,rfl⟩;rw[<- m]at B;have ab:b.di [101,120,105,116] []=(c,0):=by
  unfold Rd.di;have ah:b.xt [101,120,105,116]=k:=by unfold Rd.xt;rw[G,show i.pf=pf from g.Iu,hk];rfl
  rw[ah];exact B
 obtain⟨n,y⟩:∃ n:Rd,n={ c with v:=c.v.mem m' }:=⟨_,rfl⟩;have ad:(c.mark c.eC 0).1=n:=by
  have ho:c.eC=w:=by rw[m];exact Y
  have ag:c.v.x=x':=by rw[m]
  have hm:c.v.x.mem.iZ c.eC.cM 0=(m',0):=by rw[ho,ag];exact m1
  rw[y];show({ c with v:=c.v.mem (c.v.x.mem.iZ c.eC.cM 0).1 }:Rd)=_;rw[hm]
 obtain⟨h,O⟩:∃ h:Rd,h=({ n with ea:=c.eC }:Rd).oB:=⟨_,rfl⟩;have af:c.mh=h:=by
  rw[Em c n ad (by rw[y];show c.eE.length=1;rw[m];show b.eE.length=1;rw[H];rfl),O]
 have z:h.v=c.v.mem m'/\h.src=b.src/\h.cM=b.cM/\h.pf=b.pf/\h.eE=b.eE/\h.dy=b.dy/\h.comp=b.comp/\h.eM=b.eM/\h.is=false:=by rw[O,y,m];exact⟨rfl,rfl,rfl,rfl,rfl,rfl,rfl,rfl,rfl⟩
 obtain⟨T,k1,k2,k3,z,k5,k6,k7,k8⟩:=z;have R:h.v.x={ x' with mem:=m' }:=by rw[T,m];rfl
 have j:∀ {α:Type} (g:VM->α),(∀ v x,g { v with x:=x }=g v)->g h.v=g i.v:=fun g M=>by
  have W:g h.v=g c.v:=by rw[T];exact M c.v _
  have X:g c.v=g b.v:=by rw[m];exact M b.v x'
  rw[W,X,o]
 refine⟨h,ws,?_,?_,?_,K,?_⟩
 . unfold Rd.kY
   rw[if_neg (by rw[e];show ¬ i.eM=true;rw[I];simp),P];have L:∀ (u:Rd) (F:Rd->Rd × Int),Rd.bind (u,0) F=F u:=fun u F=>by unfold Rd.bind;rw[if_neg (by simp)]
   rw[L,ab,L,af]
 . show h.src.drop h.cM=t
   rw[k1,k2,Z,f5];exact hp
 . rw[R]
   simpa using C
 . exact⟨by show eF.In _ h.v.x;rw[R];exact m2,(j VM.dD (fun _ _=>rfl)).trans g.dD,(j VM.cF (fun _ _=>rfl)).trans g.cF,(j VM.root (fun _ _=>rfl)).trans g.root,(j VM.cy (fun _ _=>rfl)).trans g.cy,(j VM.dL (fun _ _=>rfl)).trans g.dL,(j VM.cV (fun _ _=>rfl)).trans g.cV,(j VM.d (fun _ _=>rfl)).trans g.dd,(j VM.r (fun _ _=>rfl)).trans g.rr,(j VM.cI (fun _ _=>rfl)).trans g.cI,
    k3.trans (G.trans g.Iu),k6.trans f8,k7.trans f9,k5.trans f7,⟨[],z.trans H,(fun a ha=>by cases ha),fun _ _=>rfl⟩,g.eN,fun e=>absurd rfl e,(fun _ _ _ e=>by cases e),g.eH,fun p l ae=>V _ (g.tO p l ae),fun _ _=>k8,g.eb⟩
end Fo
end Go.Proofs.dS
