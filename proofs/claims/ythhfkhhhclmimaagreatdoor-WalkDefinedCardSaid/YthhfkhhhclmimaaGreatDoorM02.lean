/- A part of WalkG. No condition. -/
import Derived.Test.YthhfkhhhclmimaaGreatDoorM01
set_option linter.unusedVariables false
set_option linter.unusedSimpArgs false
namespace Go.Proofs.dS
namespace Class
theorem Jz(T:List Int)(S:Nat->Int)(n:Nat)(x:jz)(x1:1<=x.cZ)(b1:dB x.cZ)(b2:dB x.xt)(b3:dB x.j7)(K:Nat->gJ)(hK:∀ i,i<n->(K i).table=dG T i)
 (Yy:∀ i j,i<j->j<n->dG T i+(2+S i*3)*8<=dG T j) (J:List Nat) (hJ:J.Nodup) (YD:∀ i ∈ J,i<n) (m:Mem) (hf:∀ i,i<n->dj.mI m (dG T i) (S i)) (hm:∀ i ∈ J,dj.tH m (dG T i) x.cZ=true) :
 (qf m x (J.map K)).2=0/\(qf m x (J.map K)).1.size=m.size/\(∀ a,(∀ i ∈ J,a<dG T i+8\/dG T i+(2+S i*3)*8<=a)->(qf m x (J.map K)).1.cell a=m.cell a) /\
  (∀ i,i<n->dj.mI (qf m x (J.map K)).1 (dG T i) (S i))/\∀ i,i<n->∀ s,dj.look (qf m x (J.map K)).1 (dG T i) s=if i ∈ J/\s=x.cZ then some x else dj.look m (dG T i) s:=by
 induction J generalizing m with
 | nil=>exact⟨rfl,rfl,fun _ _=>rfl,hf,fun i _ s=>by rw[if_neg (by simp)];rfl⟩
 | cons j J ih =>
  rw[List.nodup_cons]at hJ;have hj:j<n:=YD j (by simp)
  obtain⟨p0,p1,p2,p3,p4⟩:=dj.N9 (hf j hj) x x1 b1 b2 b3 (hm j (by simp))
  rw[List.map_cons,qf,hK j hj,if_neg (by rw[p0];simp)]
  generalize (dj.put m (dG T j) x).1=m1 at p1 p2 p3 p4;have hS:∀ i,i<n->1<=S i/\dj.cy m (dG T i)=S i:=fun i hi=>⟨(hf i hi).2.1,(hf i hi).1⟩
  have other:∀ i,i<n->i≠j->(∀ a,dG T i<=a->a<dG T i+(2+S i*3)*8->m1.cell a=m.cell a):=by
   intro i hi hne a a0 a1;refine p2 a ?_;have:=hS i hi;have:=hS j hj;by_cases h1:i<j
   . have:=Yy i j h1 hj;omega
   . have:=Yy j i (by omega) hi;omega
  have YE:∀ i,i<n->i≠j->dj.cy m1 (dG T i)=dj.cy m (dG T i):=fun i hi hne=>dj.lX p1 (by rw[(hS i hi).2];exact(hS i hi).1) (by rw[(hS i hi).2];exact other i hi hne)
  have eE:∀ i,i<n->i≠j->∀ k,0<=k->k<dj.cy m (dG T i)->dj.cT m1 (dG T i) k=dj.cT m (dG T i) k:=fun i hi hne k k0 k1=>dj.nF k0 (by rw[(hS i hi).2]at k1;exact k1) (other i hi hne)
  have of:∀ i,i<n->dj.mI m1 (dG T i) (S i):=by
   intro i hi;by_cases hne:i=j
   . subst hne;exact p3
   . exact dj.cj (YE i hi hne) (eE i hi hne) (hf i hi)
  obtain⟨q0,q1,q2,q3,q4⟩:=ih hJ.2 (fun i hi=>YD i (by simp[hi])) m1 of (fun i hi=>by
   have hne:i≠j:=by intro e;subst e;exact hJ.1 hi
   have hin:=YD i (by simp[hi])
   have:=hm i (by simp[hi])
   unfold dj.tH at this |-;rw[dj.oH (YE i hin hne) (fun k k0 k1=>by rw[eE i hin hne k k0 k1])]
   exact this)
  refine⟨q0,by rw[q1,p1],fun a ha=>?_,q3,fun i hi s=>?_⟩
  . rw[q2 a (fun i hi=>ha i (by simp[hi])),p2 a (ha j (by simp))]
  . rw[q4 i hi s]
    by_cases hij:i=j
    . subst hij
      rw[if_neg (fun e=>hJ.1 e.1),p4]
      simp
    . rw[dj.ln (YE i hi hij) (eE i hi hij)]
      simp[hij]
namespace Good
variable {m:Mem} {root:Int} {A T:List Int} {L:List dr} {hi:Int}
theorem CE(h:Good m root A T L hi){m':Mem}(hz:m'.size=m.size)(hc:∀ a,(a<root+8\/∃ i:Nat,i<L.length/\dG T i<=a/\a<dG A i+40)->m'.cell a=m.cell a){hi':Int}(h1:hi<=hi')(h2:hi'<=m.size):Good m' root A T L hi':=by
 have sl:∀ i:Nat,i<L.length->dj.cy m (dG T i)=(Ref.get L i).cy:=fun i i1=>(h.yB i i1).1
 have cl:∀ i:Nat,i<L.length->∀ a,dG T i<=a->a<dG T i+(2+dj.cy m (dG T i)*3)*8->m'.cell a=m.cell a:=by
  intro i i1 a a0 a1;rw[sl i i1]at a1;have:=h.zY i i1;exact hc a (.inr ⟨i,i1,by omega,by omega⟩)
 have Yv:∀ i:Nat,i<L.length->dj.cy m' (dG T i)=dj.cy m (dG T i):=fun i i1=>dj.lX hz (by rw[sl i i1];exact(h.cy i i1).1) (cl i i1)
 have Yw:∀ i:Nat,i<L.length->∀ k,0<=k->k<dj.cy m (dG T i)->dj.cT m' (dG T i) k=dj.cT m (dG T i) k:=fun i i1 k k0 k1=>dj.nF k0 k1 (cl i i1)
 refine⟨h.nA,h.nT,h.uD,h.cy,⟨h.rt.1,h.rt.2.1,by have:=h.rt;omega⟩,⟨by rw[hz];exact h2,by rw[hz];exact h.uE.2⟩,?_,h.eE,?_,?_,?_,?_⟩
 . intro i i1
   have:=h.zY i i1;exact⟨this.1,this.2.1,this.2.2.1,this.2.2.2.1,by omega⟩
 . rw[hc root (.inl (by omega))];exact h.ea
 . intro i i1
   have:=h.zY i i1;have:=h.cy i i1;rw[hc _ (.inr ⟨i,i1,by omega,by omega⟩),hc _ (.inr ⟨i,i1,by omega,by omega⟩),hc _ (.inr ⟨i,i1,by omega,by omega⟩),hc _ (.inr ⟨i,i1,by omega,by omega⟩),hc _ (.inr ⟨i,i1,by omega,by omega⟩)]
   exact h.cells i i1
 . intro i i1
   exact dj.cj (Yv i i1) (Yw i i1) (h.yB i i1)
 . intro i i1 s
   rw[dj.ln (Yv i i1) (Yw i i1)];exact h.sS i i1 s
theorem frame(h:Good m root A T L hi){m':Mem}(hz:m'.size=m.size)(hc:∀ a,a<hi->m'.cell a=m.cell a){hi':Int}(h1:hi<=hi')(h2:hi'<=m.size):Good m' root A T L hi':=by
 refine h.CE hz (fun a ha=>hc a ?_) h1 h2
 have:=h.rt
 rcases ha with ha | ⟨i,i1,a0,a1⟩
 . omega
 . have:=h.zY i i1
   omega
theorem tH(h:Good m root A T L hi){c:Nat}(cZ:Int)(s1:1<=cZ){i:Nat}(i1:i<L.length)(hh:Ref.jA L i c cZ=true):Ref.oF L c cZ i=!dj.tH m (dG T i) cZ:=by
 have hm:=dj.N8 (h.yB i i1) cZ s1;have hsp:=Ref.uB L h.uD i (by omega) (by omega) [] (by simp)
 have hlen:(dj.used m (dG T i) (Ref.get L i).cy).length=Ref.seen L i:=by
  refine Ref.Gu (dj.Cw (h.yB i i1)) hsp.1 fun s=>?_
  rw[dj.Ju (h.yB i i1),h.sS i i1 s,Option.isSome_map];refine Iff.trans ?_ (hsp.2 s).symm;simp
 rw[h.sS i i1,Option.isSome_map,hlen]at hm;unfold Ref.oF;rw[hh,Bool.true_and];have e:=Option.isNone_iff_eq_none (o:=Ref.dH L i cZ)
 cases hw:Ref.dH L i cZ with
 | some p =>
  rw[hm.2 (.inl (by rw[hw];rfl))]
  rfl
 | none =>
  rw[hw]at hm;simp only[Option.isSome_none,Bool.false_eq_true,false_or]at hm
  simp only[Option.isNone_none,Bool.true_and]
  by_cases hx:dj.tH m (dG T i) cZ=true
  . have:=hm.1 hx
    rw[hx,decide_eq_false (by omega)]
    rfl
  . have:¬ ((Ref.seen L i:Int)<(Ref.get L i).cy):=fun e=>hx (hm.2 e)
    rw[decide_eq_true (by omega),Bool.eq_false_iff.2 hx]
    rfl
theorem set(h:Good m root A T L hi){c:Nat}(hc:c<L.length)(cZ xt:Int)(b1:dB cZ)(b2:dB xt) :
 (Class.set m root (dG A c) cZ xt).2=(Ref.set L c cZ xt).2/\(Class.set m root (dG A c) cZ xt).1.size=m.size/\(∀ a,(∀ i:Nat,i<L.length->a<dG T i+8\/dG T i+(2+(Ref.get L i).cy*3)*8<=a)->(Class.set m root (dG A c) cZ xt).1.cell a=m.cell a) /\
  Good (Class.set m root (dG A c) cZ xt).1 root A T (Ref.set L c cZ xt).1 hi:=by
 have hself:c ∈ (List.range L.length).filter (fun j:Nat=>Ref.jA L j c cZ):=by
  rw[List.mem_filter,List.mem_range];exact⟨hc,by rw[Ref.lj L c c cZ (.inr rfl)];exact decide_eq_true rfl⟩
 unfold Class.set;rw[h.lh hc cZ];obtain⟨J,hJ⟩:∃ J,(List.range L.length).filter (fun j:Nat=>Ref.jA L j c cZ)=J:=⟨_,rfl⟩
 have Yx:∀ i,i ∈ J ↔ i<L.length/\Ref.jA L i c cZ=true:=by
  intro i;rw[<- hJ,List.mem_filter,List.mem_range]
 have hJd:J.Nodup:=by rw[<- hJ];exact List.Nodup.sublist List.filter_sublist List.nodup_range
 rw[hJ]at hself |-;clear hJ
 have hne:J.map (jr A T L)≠[]:=by
  intro e;rw[List.map_eq_nil_iff]at e;rw[e]at hself
  cases hself
 rw[if_neg hne];unfold Ref.set;by_cases s1:cZ<1
 . rw[if_pos s1,if_pos s1]
   exact⟨rfl,rfl,fun _ _=>rfl,h⟩
 rw[if_neg s1,if_neg s1]
 have hany:(J.map (jr A T L)).any (fun c=>!dj.tH m c.table cZ)=(List.range L.length).any (Ref.oF L c cZ):=by
  rw[Bool.eq_iff_iff,List.any_eq_true,List.any_eq_true];constructor
  . rintro⟨x,hx,hq⟩
    obtain⟨i,hi,rfl⟩:=List.mem_map.1 hx;have:=(Yx i).1 hi;exact⟨i,List.mem_range.2 this.1,by rw[h.tH cZ (by omega) this.1 this.2];exact hq⟩
  . rintro⟨i,hi,hq⟩
    rw[List.mem_range]at hi
    have hh:Ref.jA L i c cZ=true:=by
     unfold Ref.oF at hq;rw[Bool.and_eq_true,Bool.and_eq_true]at hq;exact hq.1.1
    exact⟨jr A T L i,List.mem_map.2 ⟨i,(Yx i).2 ⟨hi,hh⟩,rfl⟩,by rw[h.tH cZ (by omega) hi hh]at hq;exact hq⟩
 rw[hany];by_cases hf:(List.range L.length).any (Ref.oF L c cZ)=true
 . rw[if_pos hf,if_pos hf]
   exact⟨rfl,rfl,fun _ _=>rfl,h⟩
 rw[if_neg hf,if_neg hf]
 have hmay:∀ i ∈ J,dj.tH m (dG T i) cZ=true:=by
  intro i hi;have:=(Yx i).1 hi
  cases hq:dj.tH m (dG T i) cZ with
  | true=>rfl
  | false =>
   exfalso
   apply hf
   rw[List.any_eq_true];exact⟨i,List.mem_range.2 this.1,by rw[h.tH cZ (by omega) this.1 this.2,hq];rfl⟩
 have hpc:=h.pos hc;have htop:=h.uE;have hrt:=h.rt
 obtain⟨q0,q1,q2,q3,q4⟩:=Jz T (fun i=>(Ref.get L i).cy) L.length ⟨cZ,xt,dG A c⟩ (by show 1<=cZ;omega) b1 b2 (by show dB (dG A c);unfold dB;omega) (jr A T L) (fun _ _=>rfl)
  (fun i j hij hj=>by have:=h.eE i j hij hj;have:=h.zY i (by omega);show dG T i+(2+(Ref.get L i).cy*3)*8<=_;omega) J hJd (fun i hi=>((Yx i).1 hi).1) m h.yB hmay
 generalize qf m ⟨cZ,xt,dG A c⟩ (J.map (jr A T L))=r at q0 q1 q2 q3 q4;have cY:∀ a,(∀ i:Nat,i<L.length->a<dG T i+8\/dG T i+(2+(Ref.get L i).cy*3)*8<=a)->r.1.cell a=m.cell a:=fun a ha=>q2 a (fun i hi=>ha i ((Yx i).1 hi).1)
 have low:∀ a,a<root+8->r.1.cell a=m.cell a:=by
  intro a ha;refine cY a fun i i1=>?_
  have:=h.zY i i1;omega
 have mid:∀ i:Nat,i<L.length->∀ a,dG A i<=a->a<dG A i+40->r.1.cell a=m.cell a:=by
  intro i i1 a a0 a1;refine cY a fun j j1=>?_
  have h1:=h.zY j j1;by_cases hij:i<j
  . have:=h.eE i j hij j1;omega
  . by_cases hji:j<i
    . have:=h.eE j i hji i1
      have:=h.zY i i1;have:=h.cy i i1;omega
    . have:i=j:=by omega
      subst this;omega
 have hlen:(Ref.put L c cZ xt).length=L.length:=Ref.gF L c cZ xt;refine⟨q0,q1,cY,⟨by rw[hlen];exact h.nA,by rw[hlen];exact h.nT,Ref.uk L h.uD c cZ xt hc,?_,h.rt,by rw[q1];exact h.uE,?_,?_,?_,?_,?_,?_⟩⟩
 . intro i i1
   rw[hlen]at i1;rw[(Ref.fO L c cZ xt hc i i1).2.1];exact h.cy i i1
 . intro i i1
   rw[hlen]at i1;rw[(Ref.fO L c cZ xt hc i i1).2.1];exact h.zY i i1
 . intro i j hij j1
   rw[hlen]at j1;exact h.eE i j hij j1
 . rw[hlen,low root (by omega)];exact h.ea
 . intro i i1
   rw[hlen]at i1;obtain⟨e1,e2,e3⟩:=Ref.fO L c cZ xt hc i i1;rw[e1,e3,mid i i1 _ (by omega) (by omega),mid i i1 _ (by omega) (by omega),mid i i1 _ (by omega) (by omega),mid i i1 _ (by omega) (by omega),mid i i1 _ (by omega) (by omega)]
   exact h.cells i i1
 . intro i i1
   rw[hlen]at i1;rw[(Ref.fO L c cZ xt hc i i1).2.1];exact q3 i i1
 . intro i i1 s
   rw[hlen]at i1;rw[q4 i i1 s,Ref.Jy L h.uD c cZ xt hc s i (by omega) (by omega)]
   by_cases hq:s=cZ/\Ref.jA L i c cZ=true
   . rw[if_pos ⟨(Yx i).2 ⟨i1,hq.2⟩,hq.1⟩,if_pos hq,hq.1]
     simp only[Option.map_some,iw]
   . rw[if_neg (fun e=>hq ⟨e.2,((Yx i).1 e.1).2⟩),if_neg hq]
     exact h.sS i i1 s
end Good
end Class
namespace Class
theorem zZ(s:Sp)(root cE:Int)(t:Sp)(tb size iB:Int)(ht:t.Al)(hr:t.cu+40<=t.to)(hp:(s.mem.cell root).1=iB) :
 dT.rest s root cE (t,tb,0) size=(t.wr [j9,cE,size,tb,iB],t.cu,0):=by
 unfold dT.rest;rw[if_neg (by simp),hp]
 exact uA _ ht (by simpa using hr) _
def eO(A:List Int)(k:Option Nat):Int:=match k with | none=>0 | some k=>dG A k
def cU(k:Option Nat):Int:=match k with | none => -1 | some k=>k
def sizeOf(L:List dr)(k:Option Nat):Int:=match k with | none=>8 | some k=>(Ref.get L k).size
def yC(L:List dr)(k:Option Nat)(cy:Int):Int:=match k with | none=>cy | some k=>(Ref.get L k).cy
def nH(m:Mem)(T:List Int)(k:Option Nat)(s:Int):Option jz:=match k with | none=>none | some j=>dj.look m (dG T j) s
def Ob(x:Sp)(T:List Int)(k:Option Nat)(cy:Int):Sp × Int × Int:=match k with | none=>dj.new x cy | some j=>dj.copy x (dG T j)
theorem mN(L:List dr)(k:Option Nat)(cy:Int):Ref.new L (cU k) cy=L++[⟨cU k,sizeOf L k,yC L k cy,[]⟩]:=by
 unfold Ref.new
 cases k with
 | none=>rfl
 | some k=>show L++[if 0<=(k:Int)then _ else _]=_;rw[if_pos (by omega)];rfl
namespace Good
variable {root:Int} {A T:List Int} {L:List dr} {hi:Int}
theorem UK{m m':Mem}(h:Good m root A T L hi)(k:Option Nat)(hk:∀ j,k=some j->j<L.length)(t n size:Int)(hz:m'.size=m.size)(ht:hi<=t)(t8:t % 8=0)(n1:1<=n)(n2:n<=1024)
 (htop:t+(2+n*3)*8+40<=m.size) (hlow:∀ a,a<hi->a≠root->m'.cell a=m.cell a)
 (c0:m'.cell root=(t+(2+n*3)*8,0))
 (c1:m'.cell (t+(2+n*3)*8)=(j9,0)/\m'.cell (t+(2+n*3)*8+8)=(eO A k,0)/\m'.cell (t+(2+n*3)*8+16)=(size,0)/\m'.cell (t+(2+n*3)*8+24)=(t,0)/\m'.cell (t+(2+n*3)*8+32)=(bV A L.length,0))
 (hf:dj.mI m' t n) (Yz:∀ s,dj.look m' t s=nH m T k s) :
 Good m' root (A++[t+(2+n*3)*8]) (T++[t]) (L++[⟨cU k,size,n,[]⟩]) (t+(2+n*3)*8+40):=by
 have hx : -1<=cU k/\cU k<L.length:=by
  cases k with
  | none=>show(-1:Int) <= -1/\(-1:Int)<L.length;omega
  | some j=>have:=hk j rfl;show(-1:Int)<=j/\(j:Int)<L.length;omega
 have hrt:=h.rt;have h0:=h.uE
 have hlen:∀ i,i<(L++[(⟨cU k,size,n,[]⟩:dr)]).length->i<L.length\/i=L.length:=by
  intro i hi;rw[List.length_append,List.length_singleton]at hi;omega
 have eA:∀ i,i<L.length->dG (A++[t+(2+n*3)*8]) i=dG A i:=fun i i1=>mM _ _ _ (by rw[h.nA];exact i1)
 have eT:∀ i,i<L.length->dG (T++[t]) i=dG T i:=fun i i1=>mM _ _ _ (by rw[h.nT];exact i1)
 have lA:dG (A++[t+(2+n*3)*8]) L.length=t+(2+n*3)*8:=by rw[<- h.nA];exact ly _ _
 have lT:dG (T++[t]) L.length=t:=by rw[<- h.nT];exact ly _ _
 have eG:∀ i:Nat,i<L.length->Ref.get (L++[(⟨cU k,size,n,[]⟩:dr)]) i=Ref.get L i:=fun i i1=>Ref.mL L _ i i1
 have lG:Ref.get (L++[(⟨cU k,size,n,[]⟩:dr)]) (L.length:Nat)=⟨cU k,size,n,[]⟩:=Ref.jI L _
 have YC:∀ p:Int,p<L.length->iq (A++[t+(2+n*3)*8]) p=iq A p:=by
  intro p hp;unfold iq;by_cases h1:p<0
  . rw[if_pos h1,if_pos h1]
  . rw[if_neg h1,if_neg h1,eA _ (by omega)]
 have YH:∀ i,i<=L.length->bV (A++[t+(2+n*3)*8]) i=bV A i:=by
  intro i hi;unfold bV;by_cases h1:i=0
  . rw[if_pos h1,if_pos h1]
  . rw[if_neg h1,if_neg h1,eA _ (by omega)]
 have sl:∀ i:Nat,i<L.length->dj.cy m (dG T i)=(Ref.get L i).cy:=fun i i1=>(h.yB i i1).1
 have cl:∀ i:Nat,i<L.length->∀ a,dG T i<=a->a<dG T i+(2+dj.cy m (dG T i)*3)*8->m'.cell a=m.cell a:=by
  intro i i1 a a0 a1;rw[sl i i1]at a1;have:=h.zY i i1;exact hlow a (by omega) (by omega)
 have Yv:∀ i:Nat,i<L.length->dj.cy m' (dG T i)=dj.cy m (dG T i):=fun i i1=>dj.lX hz (by rw[sl i i1];exact(h.cy i i1).1) (cl i i1)
 have Yw:∀ i:Nat,i<L.length->∀ k,0<=k->k<dj.cy m (dG T i)->dj.cT m' (dG T i) k=dj.cT m (dG T i) k:=fun i i1 k k0 k1=>dj.nF k0 k1 (cl i i1)
 refine⟨by simp[h.nA],by simp[h.nT],Ref.yA L h.uD _ hx,?_,⟨hrt.1,hrt.2.1,by omega⟩,⟨by omega,by omega⟩,?_,?_,?_,?_,?_,?_⟩
 . intro i hi
   rcases hlen i hi with i1 | rfl
   . rw[eG i i1];exact h.cy i i1
   . rw[lG];exact⟨n1,n2⟩
 . intro i hi
   rcases hlen i hi with i1 | rfl
   . rw[eA i i1,eT i i1,eG i i1]
     have:=h.zY i i1;exact⟨this.1,this.2.1,this.2.2.1,this.2.2.2.1,by omega⟩
   . rw[lA,lT,lG]
     simp only
     omega
 . intro i j hij hj
   rcases hlen j hj with j1 | rfl
   . rw[eA i (by omega),eT j j1];exact h.eE i j hij j1
   . rw[eA i hij,lT]
     have:=h.zY i hij;omega
 . rw[c0,List.length_append,List.length_singleton]
   show _=((if L.length+1=0 then(0:Int)else dG (A++[t+(2+n*3)*8]) (L.length+1-1)),(0:Int))
   rw[if_neg (by omega),show L.length+1-1=L.length by omega,lA]
 . intro i hi
   rcases hlen i hi with i1 | rfl
   . have hl:=h.zY i i1
     have hs:=h.cy i i1;have hp:=Ref.cg L h.uD i i1;rw[eA i i1,eT i i1,eG i i1,YC _ (by omega),YH i (by omega),hlow _ (by omega) (by omega),hlow _ (by omega) (by omega),hlow _ (by omega) (by omega),hlow _ (by omega) (by omega),hlow _ (by omega) (by omega)]
     exact h.cells i i1
   . rw[lA,lT,lG,YH _ (Nat.le_refl _)]
     simp only
     rw[YC _ hx.2]
     have e:iq A (cU k)=eO A k:=by
      cases k with
      | none=>rfl
      | some j=>exact iw j
     rw[e];exact c1
 . intro i hi
   rcases hlen i hi with i1 | rfl
   . rw[eT i i1,eG i i1]
     exact dj.cj (Yv i i1) (Yw i i1) (h.yB i i1)
   . rw[lT,lG]
     exact hf
 . intro i hi s
   rcases hlen i hi with i1 | rfl
   . rw[eT i i1,Ref.xe L h.uD _ hx s i (by omega) (by omega),dj.ln (Yv i i1) (Yw i i1),h.sS i i1 s]
     cases hw:Ref.dH L i s with
     | none=>rfl
     | some p =>
      have:=Ref.Cz L h.uD s i (by omega) (by omega) p hw
      simp only[Option.map_some]
      rw[YC _ (by omega)]
   . rw[lT,Ref.uC L h.uD _ hx rfl s,Yz]
     cases k with
     | none =>
      show none=(Ref.dH L (-1) s).map _
      rw[Ref.gD L (-1) s (by omega)]
      rfl
     | some j =>
      have hj:=hk j rfl
      show dj.look m (dG T j) s=(Ref.dH L (j:Int) s).map _
      rw[h.sS j hj s]
      cases hw:Ref.dH L j s with
      | none=>rfl
      | some p =>
       have:=Ref.Cz L h.uD s j (by omega) (by omega) p hw
       simp only[Option.map_some]
       rw[YC _ (by omega)]
theorem new{x:Sp}(h:Good x.mem root A T L hi)(hx:x.Al)(hhi:hi<=x.cu)(k:Option Nat)(hk:∀ j,k=some j->j<L.length)(cy n:Int)
 (hn:n=yC L k cy) (n1:1<=n) (n2:n<=1024) (hr:x.cu+(2+n*3)*8+40<=x.to) :
 ∃ y:Sp,Class.new x root (eO A k) cy=(y,x.cu+(2+n*3)*8,0)/\y.Al/\y.lo=x.lo/\y.to=x.to/\y.cu=x.cu+(2+n*3)*8+40/\y.mem.size=x.mem.size/\(∀ b,(b<x.cu\/y.cu<=b)->b≠root->y.mem.cell b=x.mem.cell b) /\
  Good y.mem root (A++[x.cu+(2+n*3)*8]) (T++[x.cu]) (Ref.new L (cU k) cy) y.cu:=by
 have o:=hx.ok;unfold Sp.Ok at o;have hrt:=h.rt;have htop:=h.uE
 -- the table
 obtain⟨y,e,hy,y1,y2,y3,y4,y5,y6,y7⟩:∃ y:Sp,Ob x T k cy=(y,x.cu,0)/\y.Al/\y.lo=x.lo/\y.to=x.to/\y.cu=x.cu+(2+n*3)*8/\y.mem.size=x.mem.size /\
  (∀ b,(b<x.cu\/y.cu<=b)->y.mem.cell b=x.mem.cell b)/\dj.mI y.mem x.cu n/\∀ s,dj.look y.mem x.cu s=nH x.mem T k s:=by
  cases k with
  | none=>obtain rfl:n=cy:=hn;exact dj.EK hx n n1 n2 (by omega)
  | some j =>
   have hj:=hk j rfl;have hn:n=(Ref.get L j).cy:=hn;have hl:=h.zY j hj;exact dj.Jw hx (by rw[hn];exact h.yB j hj) (by rw[hn];omega) (by omega)
 obtain⟨size,hsize⟩:∃ size:Int,size=sizeOf L k:=⟨_,rfl⟩
 have Vl:dB size:=by
  cases k with
  | none=>rw[hsize];exact⟨by show -_<=(8:Int);decide,by show(8:Int)<=_;decide⟩
  | some j =>
   have hj:=hk j rfl;have:=x.mem.fh (dG A j+16);rw[(h.cells j hj).2.2.1]at this;rw[hsize];exact this
 have hroot:(x.mem.cell root).1=bV A L.length:=by rw[h.ea]
 have YA:dB (bV A L.length):=by
  have:=x.mem.fh root;rw[hroot]at this;exact this
 have hpar:dB (eO A k):=by
  cases k with
  | none=>exact⟨by show -_<=(0:Int);decide,by show(0:Int)<=_;decide⟩
  | some j =>
   have hj:=hk j rfl;have:=h.pos hj
   show dB (dG A j)
   unfold dB;omega
 have Ya:dT x root (eO A k) cy=(y.wr [j9,eO A k,size,x.cu,bV A L.length],y.cu,0):=by
  unfold dT;rw[h.ea,if_neg (by simp)]
  cases k with
  | none =>
   rw[if_pos (show eO A none=0 from rfl),show dj.new x cy=(y,x.cu,0) from e,hsize]
   exact zZ x root _ y x.cu 8 _ hy (by omega) hroot
  | some j =>
   have hj:=hk j rfl;have hp:=h.pos hj;rw[if_neg (by show ¬ dG A j=0;omega),if_neg (by show ¬ Class.is x.mem root (dG A j)=false;rw[h.is hj];simp)]
   show dT.rest x root (dG A j) (dj.copy x (Class.cT x.mem (dG A j)).1.table) (Class.cT x.mem (dG A j)).1.size=_
   rw[h.cT hj]
   show dT.rest x root (dG A j) (dj.copy x (dG T j)) (Ref.get L j).size=_
   rw[show dj.copy x (dG T j)=(y,x.cu,0) from e,hsize]
   exact zZ x root _ y x.cu _ _ hy (by omega) hroot
 have YF:(y.wr [j9,eO A k,size,x.cu,bV A L.length]).mem.size=x.mem.size:=by rw[<- y4];exact Mem.gE _ _ _
 have hin:=Mem.kU y.mem y.cu [j9,eO A k,size,x.cu,bV A L.length] hy.al (by omega) (by simp only[List.length_cons,List.length_nil];omega) (by
  intro v hv;simp only[List.mem_cons,List.not_mem_nil,or_false]at hv
  rcases hv with rfl | rfl | rfl | rfl | rfl
  . exact⟨by decide,by decide⟩
  . exact hpar
  . exact Vl
  . unfold dB;omega
  . exact YA)
 have hout:=fun b hb=>Mem.gU y.mem y.cu [j9,eO A k,size,x.cu,bV A L.length] b hb
 have c0:=hin 0 (by simp)
 have c1:=hin 1 (by simp)
 have c2:=hin 2 (by simp)
 have c3:=hin 3 (by simp)
 have c4:=hin 4 (by simp)
 clear hin;have Yt:(y.wr [j9,eO A k,size,x.cu,bV A L.length]).Al:=hy.wr (by simp only[List.length_cons,List.length_nil];omega)
 have hw:(y.wr [j9,eO A k,size,x.cu,bV A L.length]).mem=y.mem.fk y.cu [j9,eO A k,size,x.cu,bV A L.length]:=rfl;have YJ:(y.wr [j9,eO A k,size,x.cu,bV A L.length]).cu=y.cu+40:=by show y.cu+8*_=_;simp
 have hwl:(y.wr [j9,eO A k,size,x.cu,bV A L.length]).lo=y.lo:=rfl;have hwt:(y.wr [j9,eO A k,size,x.cu,bV A L.length]).to=y.to:=rfl;rw[<- hw]at c0 c1 c2 c3 c4 hout;generalize y.wr [j9,eO A k,size,x.cu,bV A L.length]=z at Ya YF c0 c1 c2 c3 c4 hout Yt YJ hwl hwt;have hra:z.mem.cM root=0:=by rw[Mem.dX];omega
 have hnew:Class.new x root (eO A k) cy=({ z with mem:=(z.mem.setCell root y.cu).1 },y.cu,0):=by
  unfold Class.new;rw[Ya,if_neg (by simp)]
  simp only
  rw[Mem.jq,hra]
 have hset:=fun b hb=>Mem.dQ z.mem root y.cu b hb
 have hsame:=Mem.fe z.mem root y.cu hra (by omega) (by omega)
 have hsz:(z.mem.setCell root y.cu).1.size=x.mem.size:=by rw[Mem.cQ,YF]
 generalize (z.mem.setCell root y.cu).1=m' at hnew hset hsame hsz;rw[y3]at hnew hsame;refine⟨_,hnew,⟨⟨?_,?_,?_,?_⟩,Yt.al⟩,?_,?_,?_,hsz,?_,?_⟩
 . exact Yt.ok.1
 . exact Yt.ok.2.1
 . exact Yt.ok.2.2.1
 . show z.to<=m'.size;rw[hsz,<- YF];exact Yt.ok.2.2.2
 . show z.lo=_;omega
 . show z.to=_;omega
 . show z.cu=_;omega
 . intro b hb hbr
   have hb:b<x.cu\/z.cu<=b:=hb
   show m'.cell b=_
   rw[hset b hbr,hout b (by simp only[List.length_cons,List.length_nil];omega),y5 b (by omega)]
 have hh:z.cu=x.cu+(2+n*3)*8+40:=by omega
 rw[mN]
 show Good m' root _ _ _ z.cu
 rw[hh,<- hsize,<- hn];simp only[List.length_cons,List.length_nil]at hout
 have ne:∀ b,hi<=b->b≠root:=by intro b hb;omega
 have YB:∀ a,x.cu<=a->a<x.cu+(2+n*3)*8->m'.cell a=y.mem.cell a:=by
  intro a a0 a1;rw[hset a (by omega),hout a (by omega)]
 have Yv:dj.cy m' x.cu=dj.cy y.mem x.cu:=by
  have:=y6.1;exact dj.lX (by rw[hsz,y4]) (by omega) (by rw[this];exact YB)
 have Yw:∀ k,0<=k->k<dj.cy y.mem x.cu->dj.cT m' x.cu k=dj.cT y.mem x.cu k:=fun k k0 k1=>dj.nF k0 k1 (by rw[y6.1];exact YB)
 simp only[List.getElem_cons_zero,List.getElem_cons_succ,y3]at c0 c1 c2 c3 c4
 refine h.UK k hk x.cu n size hsz hhi hx.al n1 n2 (by omega) ?_ hsame ⟨?_,?_,?_,?_,?_⟩ (dj.cj Yv Yw y6) ?_
 . intro a a0 a1
   rw[hset a a1,hout a (by omega),y5 a (.inl (by omega))]
 . rw[hset _ (by omega)];simpa using c0
 . rw[hset _ (by omega)];exact c1
 . rw[hset _ (by omega)];exact c2
 . rw[hset _ (by omega)];exact c3
 . rw[hset _ (by omega)];exact c4
 . intro s
   rw[dj.ln Yv Yw];exact y7 s
end Good
end Class
def fi(l:List (List UInt8))(s:List UInt8):Int:=if cG s ∈ l then(l.idxOf (cG s)+1:Nat)else 0
def gu(l:List (List UInt8))(s:List UInt8):List (List UInt8) × Int × Int :=
 if 0<fi l s then(l,fi l s,0)
 else if s=[]\/31<s.length then(l,0,-16)
 else if 1024<=l.length then(l,0,-2051)
 else(l++[cG s],(l.length+1:Nat),0)
namespace Mem
theorem Oe(a b:Nat)(ha:a<18446744073709551616)(hb:b<18446744073709551616)(h:zM a=zM b):a=b:=by
 rw[<- tP a ha,<- tP b hb,h]
theorem z7{m m':Mem}{a:Int}(hz:m'.size=m.size)(h:m'.cell a=m.cell a)(h0:m.cM a=0):m'.get a.toNat 8=m.get a.toNat 8:=by
 rw[kI m a h0,kI m' a (by rw[gj hz];exact h0)]at h
 have h1:=m.lf a.toNat 8;have h2:=m'.lf a.toNat 8;exact Oe _ _ (by simpa using h2) (by simpa using h1) (Prod.mk.inj h).1
theorem Gv(m m':Mem)(a k:Nat)(h:∀ j,j<k->m'.get (a+8*j) 8=m.get (a+8*j) 8):m'.get a (8*k)=m.get a (8*k):=by
 apply Nat.eq_of_testBit_eq
 intro i;rw[fK,fK];by_cases hi:i<8*(8*k)
 . have:=congrArg (fun n=>n.testBit (i % 64)) (h (i / 64) (by omega))
   simp only[fK]at this
   rw[show 8*(a+8*(i / 64))+i % 64=8*a+i by omega,show decide (i % 64<8*8)=true from decide_eq_true (by omega)]at this
   simp only[Bool.true_and]at this
   rw[this]
 . simp[hi]
theorem CF{m m':Mem}{a n:Int}(hz:m'.size=m.size)(a8:a % 8=0)(n8:n % 8=0)(hc:∀ b,a<=b->b<a+n->m'.cell b=m.cell b):m'.dJ a n=m.dJ a n:=by
 unfold dJ;have hh:m'.has a n=m.has a n:=by unfold has;rw[hz]
 rw[hh];by_cases h:m.has a n=true
 . rw[if_pos h,if_pos h]
   rw[eI]at h;obtain⟨k,hk⟩:∃ k:Nat,n.toNat=8*k:=⟨n.toNat / 8,by omega⟩
   rw[hk,Gv m m' a.toNat k fun j hj=>?_]
   have e:a.toNat+8*j=(a+8*j).toNat:=by omega
   rw[e];exact z7 hz (hc _ (by omega) (by omega)) (by rw[dX];omega)
 . rw[if_neg h,if_neg h]
theorem yD(m:Mem)(a:Int)(s:List UInt8)(h:m.has a s.length=true):(m.cS a s).2=0:=by
 unfold cS;rw[if_pos h]
theorem z'(m:Mem)(a:Int)(s:List UInt8)(b:Int)(hb:b+8<=a\/a+s.length<=b):(m.cS a s).1.cell b=m.cell b:=by
 apply oG (m.eh _ _)
 intro h0;unfold cS;split
 . rename_i h
   rw[eI]at h;rw[dX]at h0;simp only
   rw[hY _ _ _ _ _ _ (by omega)]
 . rfl
theorem Gw(n:Nat):qH (List.replicate n 0)=0:=by
 induction n with
 | zero=>rfl
 | succ n ih=>rw[List.replicate_succ,qH,ih];rfl
theorem Aa(n:Nat):fg n 0=List.replicate n 0:=by
 induction n with
 | zero=>rfl
 | succ n ih=>rw[fg,List.replicate_succ,Nat.zero_div,ih];rfl
theorem JA(m:Mem)(a:Int)(n:Nat)(h:m.has a n=true)(i:Nat)(hi:i<=n):(m.cS a (List.replicate n 0)).1.dJ (a+i) ((n-i:Nat):Int)=(List.replicate (n-i) 0,0):=by
 have hz:=m.eh a (List.replicate n 0);have h':=h;rw[eI]at h';rw[mH _ _ _ (by rw[eI,hz];omega)]
 unfold cS;rw[List.length_replicate,if_pos h,Gw];simp only
 rw[show(((n-i:Nat):Int)).toNat=n-i by omega,p' _ _ _ _ _ _ (by omega) (by omega),Nat.zero_shiftRight,Nat.zero_mod,Aa]
end Mem
namespace Obj
theorem JB{m:Mem}{a c n:Int}(hs:size m c=(n,0))(n8:n % 8=0)(n1:8<=n)(a8:a % 8=0)(a0:0<=a)(ha:a+n<=m.size)(hc:dB c) :
 ∃ m':Mem,make m a c=(m',0)/\m'.size=m.size/\m'.cell a=(c,0)/\m'.dJ (a+8) (n-8)=(List.replicate (n-8).toNat 0,0)/\∀ b,(b<a\/a+n<=b)->b % 8=0->m'.cell b=m.cell b:=by
 have hat:m.cM a=0:=by rw[Mem.dX];omega
 have hh:m.has a ((n.toNat:Nat):Int)=true:=by rw[Mem.eI];omega
 have hh':m.has a ((List.replicate n.toNat (0:UInt8)).length:Int)=true:=by rw[List.length_replicate];exact hh
 have h1:=m.yD a (List.replicate n.toNat 0) hh';have h2:=m.eh a (List.replicate n.toNat 0);have h3:=m.JA a n.toNat hh 8 (by omega)
 have h4:=fun b hb=>m.z' a (List.replicate n.toNat 0) b hb
 rw[List.length_replicate]at h4
 have hm:make m a c=(m.cS a (List.replicate n.toNat 0)).1.setCell a c:=by
  unfold make;rw[hs];simp only
  rw[if_neg (by simp),Mem.jo,hat,if_neg (by simp),h1,if_neg (by simp)]
 generalize (m.cS a (List.replicate n.toNat 0)).1=q at hm h2 h3 h4;have hq:q.cM a=0:=by rw[Mem.gj h2];exact hat
 refine⟨(q.setCell a c).1,?_,by rw[Mem.cQ,h2],Mem.fe _ _ _ hq hc.1 hc.2,?_,fun b hb b8=>?_⟩
 . rw[hm]
   have:=q.jq a c;rw[hq]at this;exact Prod.ext rfl this
 . rw[Mem.CF (m:=q) (Mem.cQ _ _ _) (by omega) (by omega) (fun b b0 b1=>Mem.dQ _ _ _ _ (by omega))]
   rw[show a+((8:Nat):Int)=a+8 by omega,show((n.toNat-8:Nat):Int)=n-8 by omega]at h3
   rw[h3,show n.toNat-8=(n-8).toNat by omega]
 . rw[Mem.dQ _ _ _ _ (by omega),h4 b (by omega)]
theorem JC{m:Mem}{root:Int}{A T:List Int}{L:List dr}{hi:Int}(h:Class.Good m root A T L hi){c:Nat}(hc:c<L.length)(h0:8<=(Ref.get L c).size)(h1:(Ref.get L c).size<=1048576):size m (Class.dG A c)=((Ref.get L c).size,0):=by
 unfold size;rw[h.cT hc,if_neg (by simp)]
 show(if(Ref.get L c).size<8\/1048576<(Ref.get L c).size then _ else((Ref.get L c).size,(0:Int)))=_
 rw[if_neg (by omega)]
theorem Of{m:Mem}{root:Int}{A T:List Int}{L:List dr}{hi:Int}(h:Class.Good m root A T L hi){c:Nat}(hc:c<L.length){a:Int}(ha:m.cell a=(Class.dG A c,0)):j7 m root a=(Class.dG A c,0):=by
 unfold j7;rw[ha];simp only
 rw[h.is hc,if_neg (by simp)]
end Obj
end Go.Proofs.dS
