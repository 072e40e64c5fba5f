/- A part of WalkG. No condition. -/
import Derived.Test.YthhfkhhhclmimaaGreatDoorM09
import Derived.Test.YthhfkhhhclmimaaGreatDoorM17
import Derived.Deep.CutBlock
set_option linter.unusedVariables false
set_option linter.unusedSimpArgs false
open Go.Proofs.Tryz
set_option maxRecDepth 10000
set_option maxHeartbeats 4000000
namespace Go.Proofs.dS
open Go Go.RowKit Go.Proofs.K Go.Proofs.tI Go.Proofs.Ay
theorem gn.mono{c w:World}{b n a:Nat}{K:List UInt8->Option Pk}(h:gn c w b n K)(e:n<=a):gn c w b a K:=by
 obtain⟨f,d,h⟩:=h;exact⟨f,d.mono e,h⟩
theorem gn.drew{a w:World}{b n:Nat}{K:List UInt8->Option Pk}(h:gn a w b n K):gn a w.drew b n K:=h.ct (cq.drew _ _)
theorem gn.ge{a w:World}{b n:Nat}{K:List UInt8->Option Pk}(h:gn a w b n K):a.heap.size<=b:=by
 obtain⟨f,d,e,c,g⟩:=h;exact c
theorem AB{d:World}{w:World}{b n:Nat}{K:List UInt8->Option Pk}(a:gn d w b n K)(B:n<1000)(s:List UInt8)(x:s.length<=1000)(c:Value)(m:Pk)(o:Good (fun g=>d.heap.size<=g) w m c) :
 ∃ w',(Instr.mapUpdate 235 (.map (some b)) (S_ s) c).run prog w=.ok () w'/\gn d w' b (n+1) (Yn K s m)/\cq (fun g=>g=b) w w':=by
 obtain⟨f,p,q,r,t⟩:=a;obtain⟨D,a,k⟩:=p;have u:=(a.tidy sk.kd).isMap;obtain⟨w',v,y,z⟩:=a.update sk.kd underlying235 (by unfold maxLen;omega) (sk.reads s (Nat.le_trans x (by unfold maxLen;omega))) (show RV c=some (.held c,[]) from rfl);have h:=cq.grown (S:=fun g=>g=b) z (fun j _ e=>(Option.some.inj e).symm)
 have l:=je.of (X:=fun g=>d.heap.size<=g) h (fun g _ e=>by
  have e:g=b:=e
  rw[e];exact cX.jt (⟨D,a,k⟩:cX sk w b n f))
 exact⟨w',v,⟨_,⟨_,y,k.put u s c⟩,(q.ct l).put s (o.ct l),r,t.dh h (fun i A e=>by
  have e:i=b:=e
  omega)⟩,h⟩
def pO(K:List UInt8->Option Pk)(op:List UInt8):List UInt8->Option Pk:=if Az op=true then Yn K op (.two op)else if s9 op=true then Yn K op (.one op)else K
def jf:List UInt8->Option Pk:=names.foldl pO (fun _=>none)
theorem yU(w:World):Calls prog 201 #[] w (kg w 86 jf):=by
 have hmm:=@run_makeMap prog;have zK:=zK;have DK:=h_ (gn.kf w);have HN:=h_ fun w=>mO w;have HR:Hid (jf=names.foldl pO (fun _=>none)):=rfl;generalize jf=KR at HR |-;go_enter func201,ntmps201;go_wp2_with fail;refine(HN.out _).mono ?_;rintro e w1 ⟨rfl,rfl⟩;have ON:=h_ (px (w.alloc (.map #[] 0)));replace DK:=h_ (DK.out.ct (dR _ (.cells (names.map nm).toArray 9)));generalize hw2:(w.alloc (.map #[] 0)).alloc (.cells (names.map nm).toArray 9)=w2 at ON DK;have hs2:w.heap.size+1<w2.heap.size:=by rw[<- hw2];simp
 rw[show(w.alloc (.map #[] 0)).heap.size=w.heap.size+1 by simp]at *;clear hw2;go_wp2_with fail
 go_loopw [12] (fun iv wr=>∃ i n:Nat,iv=I_ i/\i<=86/\n<=i/\gn w wr w.heap.size n ((names.take i).foldl pO (fun _=>none))/\cq (fun g=>g=w.heap.size) w2 wr) (fun iv _=>86-(intOf iv).toNat)
 case atStart=>exact⟨0,0,rfl,by omega,by omega,DK.out,cq.refl _ _⟩
 case round =>
  obtain⟨i,n,rfl,hi,hn,hd,hk⟩:=hrel;have HD:=h_ hd;have HK:=h_ hk;clear hd hk;by_cases hlt:i<86
  . have hi':i<names.length:=by rw[fZ];exact hlt
    obtain⟨g,hg,hc⟩:=qS (ON.out.ct HK.out (fun g e=>by cases e;exact fun h=>by have h:w.heap.size+1=w.heap.size:=h;omega)) i hi';cases hg
    have HT:=h_ (show(names.take (i+1)).foldl pO (fun _=>none)=pO ((names.take i).foldl pO (fun _=>none)) names[i] by
     rw[List.take_succ_eq_append_getElem hi',List.foldl_append];rfl)
    have hln:names[i].length<=1000:=by
     have:∀ s ∈ names,s.length<=1000:=by decide +kernel
     exact this _ (List.getElem_mem hi')
    generalize hx:names[i]=x at hc HT hln;generalize (names.take i).foldl pO (fun _=>none)=K at HT HD;have HL:=h_ hln;clear hx hln hi';have hi0:(0:Int)<=(i:Int):=by omega
    unfold nm at hc;have WK:=h_ fun w=>OQ x w;have WL:=h_ fun w=>OR x w;go_wp2_with fail;refine(WK.out _).mono ?_;rintro e w3 ⟨⟨x1,x2,rfl⟩,k3⟩;have WM:=h_ k3;have K3:=h_ ((dR wr _).trans k3);clear k3 hc;have HB:=K3.out.size;have NB:=h_ (show ¬ wr.heap.size=w.heap.size by obtain⟨f,h1,_⟩:=HD.out;have:=h1.lt;omega);have hb3:(wr.alloc (.cells #[S_ x] 9)).heap[wr.heap.size]?=some (.cells #[S_ x] 9 (0,0)):=cx wr _;have h3:=h_ (show w3.heap[wr.heap.size]?=some (.cells #[S_ x] 9 (0,0)) from WM.out.heap hb3 id);have D3:=h_ (HD.out.ct K3.out);have hsw:=h_ HD.out.size;clear hb3 HD;have c3:C_ w3 wr.heap.size 0=some (S_ x):=cp h3.out rfl;cases h1:Az x with
    | true =>
     have KE:=h_ (show pO K x=Yn K x (.two x) by unfold pO;rw[if_pos h1]);have hW:=h_ fun (V:World) (k:K_ w3 V)=>tW V w.heap.size (by have:=hsw.out;have:=k.size;omega) 2 (.func 320) #[cD wr.heap.size];clear h1;go_wp2_with fail
     go_region_held3 (fun w'=>C_ w' wr.heap.size 0=some (S_ x))
      (first | go_keep | exact k4.cell c3 id | exact k5.cell (k4.cell c3 id) NB.out)
      (first
        | (go_at_call 299;refine(hW.out _ (cq.drew _ _)).mono ?_;rintro e w4 ⟨v,rfl,gw,k4⟩;dsimp only;obtain⟨w5,hrun,dk,k5⟩:=AB ((D3.out.drew).ct k4) (by omega) x HL.out v (.two x) ⟨_,gw,⟨wr.heap.size,_,rfl,hsw.out,k4.heap h3.out id⟩⟩))
     have UO:=h_ dk;have K5:=h_ ((HK.out.trans (K3.out.mono (fun _ _ e=>e.elim))).trans (((cq.drew (fun g=>g=w.heap.size) w3).trans (k4.mono (fun _ _ e=>e.elim))).trans k5));clear dk k5 k4 gw hrun;go_wp2;go_roundw;case rel=>exact⟨i+1,n+1,by go_num,by omega,by omega,by rw[HT.out,KE.out];exact UO.out,K5.out⟩
     case measure=>simp[intOf];omega
    | false =>
     have KE:=h_ (show pO K x=if s9 x=true then Yn K x (.one x)else K by unfold pO;rw[if_neg (by simp[h1])]);clear h1;go_wp2_with fail;refine(WL.out _).mono ?_;rintro e w4 ⟨⟨x3,rfl⟩,rfl⟩;cases h2:s9 x with
     | true =>
      replace KE:=h_ (show pO K x=Yn K x (.one x) by rw[KE.out,if_pos h2]);have hW:=h_ fun (V:World) (k:K_ w3 V)=>tW V w.heap.size (by have:=hsw.out;have:=k.size;omega) 1 (.func 322) #[cD wr.heap.size];clear h2;go_wp2_with fail
      go_region_held3 (fun w'=>C_ w' wr.heap.size 0=some (S_ x))
       (first | go_keep | exact k4.cell c3 id | exact k5.cell (k4.cell c3 id) NB.out)
       (first
         | (go_at_call 299;refine(hW.out _ (cq.drew _ _)).mono ?_;rintro e w4 ⟨v,rfl,gw,k4⟩;dsimp only;obtain⟨w5,hrun,dk,k5⟩:=AB ((D3.out.drew).ct k4) (by omega) x HL.out v (.one x) ⟨_,gw,⟨wr.heap.size,_,rfl,hsw.out,k4.heap h3.out id⟩⟩))
      have UO:=h_ dk;have K5:=h_ ((HK.out.trans (K3.out.mono (fun _ _ e=>e.elim))).trans (((cq.drew (fun g=>g=w.heap.size) w3).trans (k4.mono (fun _ _ e=>e.elim))).trans k5));clear dk k5 k4 gw hrun;go_wp2;go_roundw;case rel=>exact⟨i+1,n+1,by go_num,by omega,by omega,by rw[HT.out,KE.out];exact UO.out,K5.out⟩
      case measure=>simp[intOf];omega
     | false =>
      replace KE:=h_ (show pO K x=K by rw[KE.out,if_neg (by simp[h2])]);have K5:=h_ (HK.out.trans (K3.out.mono (fun _ _ e=>e.elim)));clear h2;go_wp2;go_roundw;case rel=>exact⟨i+1,n,by go_num,by omega,by omega,by rw[HT.out,KE.out];exact D3.out,K5.out⟩
      case measure=>simp[intOf];omega
  . have hge:i=86:=by omega
    subst hge;have hT:names.take 86=names:=by rw[<- fZ];exact List.take_length
    rw[hT,<- HR.out]at HD;clear hT;go_wp2;go_ret;exact⟨_,rfl,HD.out.mono hn⟩
open Go Go.RowKit Go.Proofs.K
theorem yd(w:World)(a b f c:Nat)(k d:List UInt8->Option Value)(q:cX sk w a f k)(F:cX sk w b c d)(L:a≠b)(S:f+c<=1000) :
 Calls prog 206 #[.map (some a),.map (some b)] w fun e w'=>e=.returned (.tuple #[])/\cX sk w' a (f+c) (dL d k)/\cq (fun g=>g=a) w w':=by
 have P:=q.lt;go_enter func206,ntmps206
 go_wp2_with (first
  | (at_range;refine kK sk _ rfl _ 235 rfl _ underlying235 b c d rfl F ?_;intro U D y u)
  | go_in)
 go_frame
 go_loopw [8] (fun _ wr=>∃ (j:List UInt8->Bool) (h m:Nat),iJ sk wr b w.heap.size c d j h/\m+h<=f+c/\cX sk wr a m (sW d k j)/\cq (fun g=>g=a) w wr) (fun _ wr=>wr.rangeLeft b w.heap.size)
 case atStart =>
  refine⟨_,D,f,y,by have:=y.yO;omega,?_,u.mono (fun _ _ e=>e.elim)⟩;rw[sX];exact q.ct u id
 case round =>
  obtain⟨j,h,m,o,R,r,t⟩:=hrel
  go_wp2_with (first
   | (at_next;refine kL sk _ rfl _ rfl b w.heap.size c d j h rfl o ?_ ?_)
   | go_in)
  . intro I
    go_wp2;go_end0;exact⟨rfl,(r.mono (by omega)).congr (fun x O=>xo _ _ _ _ (I x O)),t⟩
  . intro x v z E M K H N J l G
    have T:=o.sV;have A:=(r.ct l (fun e=>by have e:a=w.heap.size:=e;omega));have B:=(t.dh l (fun i Q e=>by have e:i=w.heap.size:=e;omega));change (Instr.entry (cD w.heap.size)).run prog z=.ok (.tuple #[S_ x,v]) z at G;rw[show sk.val x=Value.string ⟨x.toArray⟩ from rfl];clear l K
    go_wp2_with (first
     | (at_mapUpdate;refine jM sk _ rfl _ _ _ 235 (.inl rfl) _ underlying235 a m _ rfl A (by unfold maxLen;omega) x M v rfl rfl ?_;intro V s n;go_frame)
     | go_in)
    have p:=(N.ct n (fun e=>L (by have e:b=a:=e;exact e.symm)) (fun e=>by have e:w.heap.size=a:=e;omega));have C:=B.trans n;rw[uQ _ _ _ _ _ H]at s;clear n;go_roundw;case rel=>exact⟨_,E,m+1,p,by omega,s,C⟩
    case measure=>rw[p.left_eq,o.left_eq];exact J
theorem gn.Rn{a c w:World}{b n:Nat}{K:List UInt8->Option Pk}(h:gn c w b n K)(k:K_ a c):gn a w b n K:=by
 obtain⟨f,d,e,i,j⟩:=h;exact⟨f,d,e.mono (fun g _ l=>Nat.le_trans k.size l),Nat.le_trans k.size i,k.trans j⟩
theorem gn.jt{c w:World}{b n:Nat}{K:List UInt8->Option Pk}(h:gn c w b n K):EX w b:=by
 obtain⟨f,a,_⟩:=h;exact cX.jt a
theorem gn.Ro{c w w':World}{b n a:Nat}{K:List UInt8->Option Pk}(h:gn c w b n K)(k:cq (fun g=>g=a) w w')(o:b≠a)(p:EX w a)(q:c.heap.size<=a):gn c w' b n K:=by
 obtain⟨f,d,j,l,m⟩:=h;exact⟨f,d.ct k o,j.ct (je.of k (fun g _ e=>by have e:g=a:=e;rw[e];exact p)),l,m.dh k (fun i r e=>by have e:i=a:=e;omega)⟩
def oi(K2 K1:List UInt8->Option Pk):List UInt8->Option Pk:=fun s=>match K2 s with | some k=>some k | none=>K1 s
theorem lZ.dL{X:Nat->Prop}{w:World}{K1 K2:List UInt8->Option Pk}{f1 f2:List UInt8->Option Value}(h1:lZ X w K1 f1)(h2:lZ X w K2 f2):lZ X w (oi K2 K1) (dL f2 f1):=by
 intro s;have a1:=h1 s;have a2:=h2 s;unfold oi K.dL
 cases hk:K2 s with
 | none =>
  rw[hk]at a2;simp only at a2
  rw[a2];exact a1
 | some kd =>
  rw[hk]at a2;simp only at a2
  obtain⟨v,h3,h4⟩:=a2;rw[h3];exact⟨v,rfl,h4⟩
theorem jN(f w:World)(a b c d:Nat)(j l:List UInt8->Option Pk)(m:gn f w a c j)(s:gn f w b d l)(u:a≠b)(t:c+d<=1000) :
 Calls prog 206 #[.map (some a),.map (some b)] w fun e w'=>e=.returned (.tuple #[])/\gn f w' a (c+d) (oi l j)/\cq (fun g=>g=a) w w':=by
 have v:=m.jt;obtain⟨o,z,q,y,x⟩:=m;obtain⟨p,A,r,D,C⟩:=s;refine(yd w a b c d o p z A u t).mono ?_;rintro e w' ⟨rfl,h,k⟩;have n:=je.of (X:=fun g=>f.heap.size<=g) k (fun g _ e=>by have e:g=a:=e;rw[e];exact v);exact⟨rfl,⟨_,h,(q.ct n).dL (r.ct n),y,x.dh k (fun i B e=>by have e:i=a:=e;omega)⟩,k⟩
end Go.Proofs.dS
