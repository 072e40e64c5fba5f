/- WalkDefinedCardSaid is proved: behind any classes, methods of them that are defined again, and what is sent, all classes are sound; the arguments read as they did. The library's listed variables hold what their text lays (the card ties them). -/
import Derived.Test.YthhfkhhhclmimaaGreatDoorM48
import Derived.Test.YthhfkhhhclmimaaGreatDoorM49
import Derived.Test.YthhfkhhhclmimaaGreatDoorM20
import Derived.Test.YthhfkhhhclmimaaGreatDoorCards
import Derived.Test.YthhfkhhhclmimaaGreatDoorTie
import Derived.OpenShut
import Derived.Deep.Fields
set_option linter.unusedVariables false
set_option linter.unusedSimpArgs false
open Go.Proofs.Tryz
namespace Go.Proofs.YthhfkhhhclmimaaGreatDoor.lawWalkDefined
open Go.ChangeShapes Go.WideShapes Go.ChangeAt Go.RowKit Go.Deep
open Go.Proofs.dS Go.Proofs.K Go.ChangeMaps
theorem QA:laidOutB Tryz.prog=true:=by kernel_rfl
theorem QB{α:Type}(n:Nat)(p:Nat->α->Prop)(h:∀ i,i<n->∃ x,p i x):∃ l:List α,l.length=n/\∀ i (hi:i<l.length),p i l[i]:=by
 induction n with
 | zero=>exact⟨[],rfl,fun i hi=>by simp at hi⟩
 | succ n ih =>
  obtain⟨l,hl,hp⟩:=ih fun i hi=>h i (by omega)
  obtain⟨x,hx⟩:=h n (by omega)
  refine⟨l++[x],by simp[hl],fun i hi=>?_⟩
  by_cases hin:i<l.length
  . rw[List.getElem_append_left hin];exact hp i hin
  . have:i=n:=by simp at hi;omega
    subst this;rw[List.getElem_append_right (by omega)]
    simpa[hl] using hx
section
variable {H:Type} {enc:TypeId × Value->H} {P:Program} {w:World} {dD:Nat} {spare:Nat->Bool} {held:Bool}
theorem rU{t e:TypeId}{fs:Array Field}{cI:Nat}{cs:List Value}{x:DataW H × List MemPlace}(ht:P.underlying t=some (.slice e))(he:P.underlying e=some (.struct fs))
 (hone:oneCellFields P fs=true) (hC:P.cellsOf e=fs.size) (h:DataW.trod enc P w dD spare held cI t cs=some x) :
 (cs=[.slice none 0 0]/\x=(.nil,[])) \/
 ∃ (a:Addr) (len cap m:Nat) (D:Nat->DataW H) (Pl:Nat->List MemPlace),cs=[.slice (some a) len cap]/\dD<=a.block/\len<=cap/\cap<=maxLen/\m=(if spare a.block then cap else len) /\
  x=(.slice ((List.range len).map D) ((List.range (m-len)).map fun j=>D (len+j)),MemPlace.row a (m*fs.size)++(List.range m).flatMap Pl) /\
  ∀ i,i<m->∃ (ys:List (DataW H × List MemPlace)) (n:Nat),D i=.agg (ys.map (·.1))/\Pl i=ys.flatMap (·.2)/\ys.length=fs.size /\
   ∀ (j:Nat) (f:Field),fs[j]?=some f->∃ (v:Value) (y:DataW H × List MemPlace),w.cell? (a.add (i*fs.size+j))=some v/\ys[j]?=some y/\DataW.trod enc P w dD spare held n f.type [v]=some y:=by
 rcases open_slice ht h with h0 | ⟨a,len,cap,m,n,D,Pl,hcs,hb,hl,hm,hmm,hx,hi⟩
 . exact .inl h0
 . refine .inr ⟨a,len,cap,m,D,Pl,hcs,hb,hl,hm,hmm,by rw[hC]at hx;exact hx,fun i him=>?_⟩
   obtain⟨cs',hc,ht'⟩:=hi i him;rw[hC]at hc;obtain⟨ys,n',hn',hy,hlen,hyl,hf⟩:=DataW.trod_struct he ht';obtain⟨_,hcl,hat⟩:=World.cells?_some hc;simp only[Prod.mk.injEq]at hy
   refine⟨ys,n',hy.1,hy.2,hyl,fun j f hj=>?_⟩
   obtain⟨ho,hk⟩:=hone_of hone j f hj;have hjl:j<fs.size:=(Array.getElem?_eq_some_iff.1 hj).1;have hcell:=hat j hjl;have hv:cs'[j]?=some (cs'[j]'(by omega)):=List.getElem?_eq_getElem (by omega)
   have h1:=hf j f hj;rw[ho,hk]at h1
   have hone':(cs'.drop j).take 1=[cs'[j]'(by omega)]:=by
    rw[List.drop_eq_getElem_cons (by omega)]
    rfl
   rw[hone']at h1;have hys:ys[j]?=some (ys[j]'(by omega)):=List.getElem?_eq_getElem (by omega)
   refine⟨_,_,?_,hys,h1.trans hys⟩;rw[<- Go.Deep.add_add,hcell,hv]
end
theorem yt{n:Int}(w:(Lit.int .u8 n).wf=true):0<=n/\n<256:=by
 simp only[Lit.wf,Bool.and_eq_true,decide_eq_true_eq]at w
 have e0:IntKind.u8.min=0:=rfl;have e1:IntKind.u8.max=255:=rfl;rw[e0,e1]at w;omega
theorem SU{n:Int}(w:(Lit.int .u16 n).wf=true):0<=n/\n<=65535:=by
 simp only[Lit.wf,Bool.and_eq_true,decide_eq_true_eq]at w
 have e0:IntKind.u16.min=0:=rfl;have e1:IntKind.u16.max=65535:=rfl;rw[e0,e1]at w;exact w
theorem QC{H:Type}{enc:TypeId × Value->H}{W:World}{a:Option Addr}{n c:Nat}{d:DataW H}{p:List MemPlace}(h:DataW.Trod enc Tryz.prog W 0 (fun _=>true) true 94 (.slice a n c) d p) :
 ∃ L:List Fo.Act,L.length=n/\sO W a L/\(∀ x ∈ L,rK x):=by
 obtain⟨cI,hf⟩:=h
 rcases rU Tryz.underlying94 Tryz.underlying103 (by kernel_rfl) (by kernel_rfl) hf with⟨hcs,_⟩ | ⟨ad,l,c',m,D,Pl,hcs,_,hl,hm,hmm,_,hi⟩
 . simp[Value.cells]at hcs
   obtain⟨rfl,rfl,rfl⟩:=hcs;exact⟨[],rfl,fun i hi=>by simp at hi,fun x hx=>by cases hx⟩
 . simp[Value.cells]at hcs
   obtain⟨rfl,rfl,rfl⟩:=hcs;simp only[if_true]at hmm
   subst hmm
   obtain⟨ms,h1,h2⟩:=QB n (fun i (x:Fo.Act)=>W.cell? (ad.add (i*6))=some (.int .u8 (x.kind:Int))/\W.cell? (ad.add (i*6+1))=some (.int .u8 (x.p:Int))/\W.cell? (ad.add (i*6+2))=some (.int .u8 (x.c:Int)) /\
    W.cell? (ad.add (i*6+3))=some (.int .u8 (x.cZ:Int))/\W.cell? (ad.add (i*6+4))=some (.int .u16 (x.n:Int))/\W.cell? (ad.add (i*6+5))=some (.bool x.lP)/\rK x) (fun i hin=>by
    obtain⟨ys,k,_,_,_,hj⟩:=hi i (by omega)
    obtain⟨v0,y0,c0,_,t0⟩:=hj 0 _ rfl;obtain⟨v1,y1,c1,_,t1⟩:=hj 1 _ rfl;obtain⟨v2,y2,c2,_,t2⟩:=hj 2 _ rfl;obtain⟨v3,y3,c3,_,t3⟩:=hj 3 _ rfl;obtain⟨v4,y4,c4,_,t4⟩:=hj 4 _ rfl;obtain⟨v5,y5,c5,_,t5⟩:=hj 5 _ rfl;obtain⟨x0,e0,_,f0⟩:=DataW.trod_int Tryz.underlying5 t0;obtain⟨x1,e1,_,f1⟩:=DataW.trod_int Tryz.underlying5 t1;obtain⟨x2,e2,_,f2⟩:=DataW.trod_int Tryz.underlying5 t2;obtain⟨x3,e3,_,f3⟩:=DataW.trod_int Tryz.underlying5 t3;obtain⟨x4,e4,_,f4⟩:=DataW.trod_int Tryz.underlying31 t4;obtain⟨x5,e5,_⟩:=DataW.trod_bool Tryz.underlying4 t5;simp at e0 e1 e2 e3 e4 e5
    subst e0 e1 e2 e3 e4 e5;have b0:=yt f0;have b1:=yt f1;have b2:=yt f2;have b3:=yt f3;have b4:=SU f4;refine⟨⟨x0.toNat,x1.toNat,x2.toNat,x3.toNat,x4.toNat,x5⟩,?_,?_,?_,?_,?_,?_,?_⟩
    . rw[show((x0.toNat:Nat):Int)=x0 by omega];exact c0
    . rw[show((x1.toNat:Nat):Int)=x1 by omega];exact c1
    . rw[show((x2.toNat:Nat):Int)=x2 by omega];exact c2
    . rw[show((x3.toNat:Nat):Int)=x3 by omega];exact c3
    . rw[show((x4.toNat:Nat):Int)=x4 by omega];exact c4
    . exact c5
    . exact⟨by show x0.toNat<=255;omega,by show x1.toNat<=255;omega,by show x2.toNat<=255;omega,by show x3.toNat<=255;omega,by show x4.toNat<=65535;omega⟩)
   refine⟨ms,h1,fun i hin=>?_,fun x hx=>?_⟩
   . obtain⟨c0,c1,c2,c3,c4,c5,_⟩:=h2 i hin
     obtain⟨b,o,sp⟩:=ad;have hsp:sp=none:=by simpa[Addr.add] using World.cell?_spot (h2 0 (by omega)).1
     subst hsp;rw[Addr.add_lit]at c0 c1 c2 c3 c4 c5;exact⟨b,o,rfl,c0,by rw[Nat.add_assoc];exact c1,by rw[Nat.add_assoc];exact c2,by rw[Nat.add_assoc];exact c3,by rw[Nat.add_assoc];exact c4,by rw[Nat.add_assoc];exact c5⟩
   . obtain⟨i,hi2,rfl⟩:=List.mem_iff_getElem.1 hx
     exact(h2 i hi2).2.2.2.2.2.2
theorem SV{w:World}(h:w.ShapedOpen Tryz.prog)(hl:laidMetH Tryz.prog Rows.walkDefinedRow.laid w):xM w:=by
 have hl : laidMet Tryz.prog [("math/bits.deBruijn32tab", Rows.laid_math_bits_deBruijn32tab), ("math/bits.deBruijn64tab", Rows.laid_math_bits_deBruijn64tab), ("internal/strconv.uint64pow10", Rows.laid_internal_strconv_uint64pow10)] w := hl
 obtain⟨v,f,hh⟩:=rG (g:=3) (t:=147) (zero:=#[.nilIface]) h (of_decide_eq_true (by kernel_rfl)) (by kernel_rfl) rfl
 exact⟨Mj hl.tail.tail,Ij h,cA hh⟩
theorem Jf(os:Os)(args:Array Value):laidMetH Tryz.prog Rows.walkDefinedRow.laid ((xN os).forCall (fun _ _=>0) ⟨#[],args,[]⟩).memory :=
 show laidMet _ _ _ from laidMet_of_run' 8 (by kernel_rfl) (by kernel_rfl)
theorem dH(W:World)(a:Option Addr)(n c:Nat)(hg:xM W)(h1:∃ L:List Fo.Act,L.length=n/\sO W a L/\(∀ x ∈ L,rK x)) :
 Calls Tryz.prog 8 #[.slice a n c] W fun e w'=>e=.returned (.bool true)/\Below W.heap.size W w':=by
 obtain⟨L,rfl,hS,hb⟩:=h1;exact(Hg W hg a c L hS hb).mono fun e w' h=>⟨h.1,h.2.below (Nat.le_refl _) (fun _ _ h=>h)⟩
set_option maxRecDepth 100000 in
theorem lifted(os:Os)(started:os.Started)(H:Type)(enc:TypeId × Value->H) :
 ReturnsInLeavingWide {} Tryz.checked os 8 .any (fun w args=>(Rows.walkDefinedSpec.pre enc Tryz.prog Tryz.f8 [] false w args/\laidMetH Tryz.prog Rows.walkDefinedRow.laid w)/\sizedMet enc Tryz.prog Tryz.f8 (OpenSpec.ofChange Rows.walkDefinedSpec) false w args)
  (Rows.walkDefinedSpec.post enc Tryz.prog Tryz.f8 false true false false):=by
 refine mA (C:=Tryz.checked) (X:=fun w _=>laidMetH Tryz.prog Rows.walkDefinedRow.laid w) (fun _ _ _ hh h=>h.of_heap hh) Mi started (by kernel_rfl) Tryz.func8
  (ChangeSpec.witness_at (enc:=enc) (C:=Tryz.checked) (os:=os) (X:=fun w _=>laidMetH Tryz.prog Rows.walkDefinedRow.laid w) false (xN os) #[.slice none 0 0] 8 rfl (by kernel_rfl) (by kernel_rfl) (by kernel_rfl) (by kernel_rfl) (by kernel_rfl) (Jf os _)) ?_
 intro W dD args ds gs before hsh hval0 hW hcnd hsz0 hL;have hval:∀ (j:Nat) t v,Tryz.f8.params[j]?=some t->args[j]?=some v->Value.okWide Tryz.prog W .any dD t v:=hval0;have hW':=hW;obtain⟨p,q,WE,hV,rfl,hfz,hnd⟩:=hW;have hA:DataW.TrodAll enc Tryz.prog W 0 (fun _=>true) true Tryz.f8.params.toList args.toList ds p:=WE
 rw[Tryz.params8]at hA hval;obtain⟨v0,Yk,d0,ds0,p0,q0,hargs,rfl,rfl,h0,r0⟩:=trodAll_cons hA;obtain⟨rfl,rfl,rfl⟩:=trodAll_nil r0;obtain rfl:args=#[v0]:=by cases args;simp_all
 obtain⟨rfl,rfl⟩:=trodVars_none hV;obtain⟨a0,VA,cap0,rfl⟩:=okWide_slice Tryz.underlying94 (hval 0 94 v0 rfl rfl);have k0:=h0;have X0:∀ x ∈ p0,x.block<W.heap.size:=by obtain⟨m,hm⟩:=k0;exact DataW.trod_lt m _ _ _ hm
 clear WE hval0;refine(dH W a0 VA cap0 (SV hsh hL) (QC h0)).mono fun e W' ⟨he,WH⟩=>?_
 subst he;exact⟨_,rfl,_,_,_,[],_,[],hW',trodAll_mk1 (shut_bool Tryz.underlying4 _),(trodAll_cons_mk (Below.trod QA (by kernel_rfl) (of_decide_eq_true (by kernel_rfl)) k0 WH X0) trodAll_mk0),rfl,WH.frame _,fun h=>by cases h⟩
theorem dL:Rows.WalkDefinedSaid :=
 OpenClaim.holds_of_wide_leaving 8 Tryz.f8 rfl rfl rfl rfl rfl rfl rfl ⟨rfl,rfl,rfl,rfl,rfl⟩ rfl rfl rfl rfl rfl (by kernel_rfl) Tryz.func8 SS
  (of_decide_eq_true (by kernel_rfl)) (by unfold Func.isWrapper;first | (rw[if_pos (by decide +kernel)];kernel_rfl) | (rw[if_neg (by decide +kernel)];exact⟨rfl,rfl⟩))
  (fun os started H enc _=>lifted os started H enc)
theorem proved:Rows.WalkDefinedCardSaid :=
 tM .later [.data, .data, .data] true (true, "c8d7bac98332eda8b48885b3f91051c3db85ca661fcc5d769a619cd8733455d0") true
  dL a8 walkDefined_row_tie rfl ⟨rfl,rfl⟩ (by kernel_rfl) rfl
  (fun f fn hf hfn=>by
    obtain rfl : f = 8 := Option.some.inj ((show Tryz.prog.funcNamed "shed/shedlaw20.WalkDefined" = some 8 by kernel_rfl).symm.trans hf) |>.symm
    obtain rfl:fn=Tryz.f8:=(Option.some.inj (Tryz.func8.symm.trans hfn)).symm
    exact⟨by kernel_rfl,fun j t ht=>by
     rw[Tryz.params8]at ht;have hm:t ∈ [94]:=by simpa using Array.mem_of_getElem? ht
     have hall:([94].all fun u=>!Tryz.prog.wantsStandIn u)=true:=by kernel_rfl
     exact(show Tryz.prog.wantsStandIn t=false by simpa using List.all_eq_true.1 hall t hm)⟩)
  a9
#print axioms proved
end Go.Proofs.YthhfkhhhclmimaaGreatDoor.lawWalkDefined
