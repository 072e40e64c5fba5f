/- A part of WalkG. No condition. -/
import Derived.Test.YthhfkhhhclmimaaGreatDoorM51
import Derived.Test.YthhfkhhhclmimaaGreatDoorM50
set_option linter.unusedVariables false
set_option linter.unusedSimpArgs false
open Go.Proofs.Tryz
set_option maxRecDepth 10000
set_option maxHeartbeats 4000000
namespace Go.Proofs.dS
open Go Go.RowKit Go.Proofs.K Go.Proofs.tI
theorem vT{G:Gk}{F:Fk}(gf:GF G F){j:Nat}{w0 w:World}{tb:Nat}(h:ph j w0 w G F tb):(∀ V,K_ w V->Calls Tryz.prog 61 #[cD G.K.b,I_ 8] V fun e w'=>e=.returned (I_ 0)/\K_ V w') /\
 w.cell? ⟨F.fb,0,none⟩=some (cD G.ob)/\w.cell? ⟨G.ob,0,none⟩=some (cD G.K.mb)/\w.cell? ⟨G.K.mb,0,none⟩=some (cD G.K.s)/\w.cell? ⟨G.K.s,0,none⟩=some (cD G.K.b)/\w.cell? ⟨G.K.mb,7,none⟩=some (I_ 8)/\K_ w0 w:=by
 obtain⟨P,TL,q,Z,T,D,S,τ,f,h⟩:=h;have h7:=h.rj.v7;rw[h.st.root]at h7;refine⟨fun V k=>ck V G.K.b G.K.bb _ 8 (h.rj.cL (pZ G F gf) k).wW.vm.sp.mem (h.st.fQ.iE.G0 fun j hj=>(h.st.fQ.sl j hj).2),h.rj.f0,h.rj.o0,h.rj.v0,h.rj.vs,h7,h.k⟩
theorem Hg(w:World)(hg:xM w)(a:Option Addr)(c:Nat)(L:List Fo.Act)(hL:sO w a L)(hA:∀ x ∈ L,rK x) :
 Calls Tryz.prog 8 #[.slice a L.length c] w fun e w'=>e=.returned (.bool true)/\K_ w w':=by
 have Hi:=h_ fun V (k:K_ w V)=>pJ V (hg.cL k)
 have HB:=h_ fun V (k:K_ w V) (hf:L.length<=40)=>A8 V (hg.cL k) a c L (hL.cL k) hA hf
 clear hg hL hA;by_cases hf:L.length<=40
 . have Qy:¬ (40:Int)<(L.length:Int):=by omega
   go_enter Tryz.func8,Tryz.ntmps8
   go_wp2_with fail;refine(Hi.out w (cq.refl _ _)).mono ?_;rintro e w1 ⟨rfl,k1⟩;have K1:=h_ k1;have HB1:=h_ (HB.out w1 k1 hf);clear k1 Hi HB;go_wp2_with fail;refine HB1.out.mono ?_;rintro e w2 ⟨G,F,tb,j,rfl,gf,he⟩;obtain⟨hw,f0,o0,v0,vs,v7,k2⟩:=vT gf he;have HW:=h_ hw;have K2:=h_ (K1.out.trans k2);clear hw k2 K1 HB1 gf he;go_wp2_with fail
   go_region_held3 (fun V=>V.cell? ⟨F.fb,0,none⟩=some (cD G.ob)/\V.cell? ⟨G.ob,0,none⟩=some (cD G.K.mb)/\V.cell? ⟨G.K.mb,0,none⟩=some (cD G.K.s)/\V.cell? ⟨G.K.s,0,none⟩=some (cD G.K.b)/\V.cell? ⟨G.K.mb,7,none⟩=some (I_ 8))
    (first | (go_keep;done) | exact tt)
    (first | (go_at_call 61;refine(HW.out _ (cq.drew _ _)).mono ?_;rintro e w3 ⟨rfl,k3⟩;dsimp only;have kk:=(fw w2).trans k3;have tt:=(show w3.cell? ⟨F.fb,0,none⟩=some (cD G.ob)/\w3.cell? ⟨G.ob,0,none⟩=some (cD G.K.mb)/\w3.cell? ⟨G.K.mb,0,none⟩=some (cD G.K.s)/\w3.cell? ⟨G.K.s,0,none⟩=some (cD G.K.b)/\w3.cell? ⟨G.K.mb,7,none⟩=some (I_ 8) from⟨kk.cell f0 id,kk.cell o0 id,kk.cell v0 id,kk.cell vs id,kk.cell v7 id⟩)))
   have K3:=h_ (K2.out.trans kk);clear kk k3 tt f0 o0 v0 vs v7 HW K2;go_wp2_with fail;go_ret
   exact⟨rfl,K3.out⟩
 . have Qy:(40:Int)<(L.length:Int):=by omega
   clear HB
   go_enter Tryz.func8,Tryz.ntmps8
   go_wp2_with fail;refine(Hi.out w (cq.refl _ _)).mono ?_;rintro e w1 ⟨rfl,k1⟩;have K1:=h_ k1;clear k1;go_wp2_with fail;refine(Hi.out w1 K1.out).mono ?_;rintro e w2 ⟨rfl,k2⟩;have K2:=h_ (K1.out.trans k2);clear k2 Hi;go_wp2_with fail;go_ret
   exact⟨rfl,K2.out⟩
end Go.Proofs.dS
