/- A part of WalkG. No condition. -/
import Derived.Test.YthhfkhhhclmimaaGreatDoorM47
set_option linter.unusedVariables false
set_option linter.unusedSimpArgs false
open Go.Proofs.Tryz
set_option maxRecDepth 10000
set_option maxHeartbeats 4000000
namespace Go.Proofs.dS
open Go Go.RowKit Go.Proofs.K Go.Proofs.tI
theorem tJ(w:World):Calls Tryz.prog 176 #[.pointer none] w fun e w'=>e=.returned (.tuple #[.slice none 0 0,I_ (-256)])/\w=w':=by
 go_enter Tryz.func176,Tryz.ntmps176
 go_wp2_with fail;go_ret2
 exact⟨rfl,rfl⟩
theorem td(w:World)(b:Nat)(r f:Int):Calls Tryz.prog 104 #[.pointer none,cD b,I_ r,I_ f] w fun e w'=>e=.returned (.tuple #[.slice none 0 0,I_ (-256)])/\w=w':=by
 go_enter Tryz.func104,Tryz.ntmps104
 go_wp2_with fail;refine(tJ w).mono ?_;rintro e w1 ⟨rfl,rfl⟩;go_wp2_with fail;go_ret2
 exact⟨rfl,rfl⟩
theorem pJ(w:World)(hg:xM w):Calls Tryz.prog 59 #[] w fun e w'=>e=.returned (.bool true)/\K_ w w':=by
 have HO:=h_ (Mk w hg);have HF:=h_ fun (V:World) (G:Gk) (F:Fk) (gf:GF G F) Z (hj:RJ (RO G F) G V Z (SC Me,Oo.start))=>zA (pZ G F gf) V Z (SC Me,Oo.start) 100 (by decide) (by decide) hj
 obtain⟨Q,t,h1,h2⟩:=BP.pJ;have HT:=h_ fun (V:World) (G:Gk) (F:Fk) (gf:GF G F) Z (hj:RJ (RO G F) G V Z BP.qE)=>wu G F gf V Z BP.qE BP.src Q (by decide) t hj
 obtain⟨⟨qr,qo⟩,qe⟩:=Q;dsimp only at h1 h2 HT;have HS:=h_ h1;have HR:=h_ h2;clear hg t h1 h2
 go_enter Tryz.func59,Tryz.ntmps59
 go_wp2_with fail;refine HO.out.mono ?_;rintro e w1 ⟨G,F,Z,x,rfl,gf,j1,z1,k1⟩;have pW:=h_ gf;have HZ:=h_ z1;have K1:=h_ k1;have J1:=h_ j1;have HW1:=h_ fun V (k:K_ w1 V)=>ck V G.K.b G.K.bb _ 8 (j1.cL (pZ G F gf) k).wW.vm.sp.mem BP.F8
 have f0:=j1.f0;have o0:=j1.o0;have v0:=j1.v0;have vs:=j1.vs;have v7:w1.cell? ⟨G.K.mb,7,none⟩=some (I_ 8):=j1.v7;clear gf j1 z1 k1 HO;go_wp2_with fail
 go_region_held3 (fun V=>V.cell? ⟨F.fb,0,none⟩=some (cD G.ob)/\V.cell? ⟨G.ob,0,none⟩=some (cD G.K.mb)/\V.cell? ⟨G.K.mb,0,none⟩=some (cD G.K.s)/\V.cell? ⟨G.K.s,0,none⟩=some (cD G.K.b)/\V.cell? ⟨G.K.mb,7,none⟩=some (I_ 8))
  (first | (go_keep;done) | exact tt)
  (first | (go_at_call 61;refine(HW1.out _ (cq.drew _ _)).mono ?_;rintro e w2 ⟨rfl,k2⟩;dsimp only;have kk:=(fw w1).trans k2;have tt:=(show w2.cell? ⟨F.fb,0,none⟩=some (cD G.ob)/\w2.cell? ⟨G.ob,0,none⟩=some (cD G.K.mb)/\w2.cell? ⟨G.K.mb,0,none⟩=some (cD G.K.s)/\w2.cell? ⟨G.K.s,0,none⟩=some (cD G.K.b)/\w2.cell? ⟨G.K.mb,7,none⟩=some (I_ 8) from⟨kk.cell f0 id,kk.cell o0 id,kk.cell v0 id,kk.cell vs id,kk.cell v7 id⟩)))
 have J2:=h_ (J1.out.cL (pZ G F pW.out) kk);have K2:=h_ (K1.out.trans kk);have HZ1:=h_ (show ∀ g,Z g->w.heap.size<=g from HZ.out)
 clear kk k2 tt f0 o0 v0 vs v7 J1 K1 HZ HW1;obtain⟨Z2,j3,e3⟩:=HF.out w2 G F pW.out Z J2.out;have J3:=h_ (show RJ (RO G F) G (w2.setCell ⟨G.K.mb,10,none⟩ (I_ 100)) Z2 BP.qE from j3)
 have E3:=h_ e3;have HT2:=h_ (HT.out _ G F pW.out Z2 J3.out);have f0:=J2.out.f0;have o0:=J2.out.o0;obtain⟨pv,Jd⟩:∃ v,w2.cell? ⟨G.K.mb,10,none⟩=some v:=J2.out.rd.elim fun X h=>⟨_,h.Ss⟩
 have fr:w2.frozen? ⟨G.K.mb,10,none⟩=false:=J2.out.rd.elim fun X h=>h.fv.er 10
 have g0:=J3.out.f0;have q0:=J3.out.o0;have KA:=h_ (K2.out.dh E3.out.k (fun i hi e=>by have:=HZ1.out i e;omega))
 have HZ2:=h_ (show ∀ g,Z2 g->w.heap.size<=g from fun g hg=>(E3.out.n g hg).elim (HZ1.out g) (fun e=>Nat.le_trans K2.out.size e))
 clear j3 e3 HF HT;go_wp2_with fail;refine HT2.out.mono ?_;rintro e w4 ⟨rfl,Z4,j4,e4⟩;have J4:=h_ j4;have K4:=h_ (KA.out.dh e4.k (fun i hi e=>by have:=HZ2.out i e;omega))
 have f0:=j4.f0;have o0:=j4.o0;have v0:=j4.v0;have vs:=j4.vs;have v7:w4.cell? ⟨G.K.mb,7,none⟩=some (I_ 8):=by have:=j4.v7;dsimp only at this;rw[HR.out]at this;exact this
 have P3:=h_ fun V (k:K_ w4 V)=>ck V G.K.b G.K.bb _ 8 (j4.cL (pZ G F pW.out) k).wW.vm.sp.mem HS.out
 clear j4 e4 HT2 J2 J3 K2 KA HZ1 HZ2 Jd fr g0 q0 E3;dsimp only;go_wp2_with fail
 go_region_held3 (fun V=>V.cell? ⟨F.fb,0,none⟩=some (cD G.ob)/\V.cell? ⟨G.ob,0,none⟩=some (cD G.K.mb)/\V.cell? ⟨G.K.mb,0,none⟩=some (cD G.K.s)/\V.cell? ⟨G.K.s,0,none⟩=some (cD G.K.b)/\V.cell? ⟨G.K.mb,7,none⟩=some (I_ 8))
  (first | (go_keep;done))
  (first | (go_at_call 104;refine(td w4.drew G.K.b 8 0).mono ?_;rintro e w5 ⟨rfl,rfl⟩;dsimp only))
 have k5:=fw w4;have f1:=k5.cell f0 id;have o1:=k5.cell o0 id;have v1:=k5.cell v0 id;have s1:=k5.cell vs id;have r1:=k5.cell v7 id;have Qg:=h_ fun V (k:K_ w4.drew V)=>P3.out V (k5.trans k)
 have K5:=h_ (K4.out.trans k5);clear f0 o0 v0 vs v7 P3 K4 J4 k5;generalize w4.drew=w5 at f1 o1 v1 s1 r1 Qg K5 |-;go_wp2_with fail
 go_region_held3 (fun V=>V.cell? ⟨F.fb,0,none⟩=some (cD G.ob)/\V.cell? ⟨G.ob,0,none⟩=some (cD G.K.mb)/\V.cell? ⟨G.K.mb,0,none⟩=some (cD G.K.s)/\V.cell? ⟨G.K.s,0,none⟩=some (cD G.K.b)/\V.cell? ⟨G.K.mb,7,none⟩=some (I_ 8))
  (first | (go_keep;done) | exact tt)
  (first | (go_at_call 61;refine(Qg.out _ (cq.drew _ _)).mono ?_;rintro e w6 ⟨rfl,k6⟩;dsimp only;have kk:=(fw w5).trans k6;have tt:=(show w6.cell? ⟨F.fb,0,none⟩=some (cD G.ob)/\w6.cell? ⟨G.ob,0,none⟩=some (cD G.K.mb)/\w6.cell? ⟨G.K.mb,0,none⟩=some (cD G.K.s)/\w6.cell? ⟨G.K.s,0,none⟩=some (cD G.K.b)/\w6.cell? ⟨G.K.mb,7,none⟩=some (I_ 8) from⟨kk.cell f1 id,kk.cell o1 id,kk.cell v1 id,kk.cell s1 id,kk.cell r1 id⟩)))
 have K6:=h_ (K5.out.trans kk);clear kk k6 tt;go_wp2_with fail;go_ret
 exact⟨rfl,K6.out⟩
end Go.Proofs.dS
