/- A part of WalkG. No condition. -/
import Derived.Test.YthhfkhhhclmimaaGreatDoorM21
import Derived.Test.YthhfkhhhclmimaaGreatDoorM23
set_option linter.unusedVariables false
set_option linter.unusedSimpArgs false
open Go.Proofs.Tryz
set_option maxRecDepth 10000
set_option maxHeartbeats 4000000
namespace Go.Proofs.dS
open Go Go.RowKit Go.Proofs.K
namespace dE
def qp(b:Nat):List UInt8->Nat->Option Nat
 | [],n=>some n
 | c :: l,n=>if l0 c.toNat<0\/(b:Int)<=l0 c.toNat then none else qp b l ((n*b+(l0 c.toNat).toNat) % 18446744073709551616)
def fC(s:List UInt8)(b:Nat):Nat × Bool:=match qp b s 0 with
 | none=>(0,false)
 | some n=>(n,!s.isEmpty)
theorem Ls(c:Nat) : -1<=l0 c/\l0 c<=35:=by unfold l0;(repeat' split) <;> omega
theorem Hw(b:Nat)(c:UInt8)(l:List UInt8)(n:Nat):qp b (c :: l) n=if l0 c.toNat<0\/(b:Int)<=l0 c.toNat then none else qp b l ((n*b+(l0 c.toNat).toNat) % 18446744073709551616):=rfl
end dE
theorem ti(w:World)(s:List UInt8)(b:Nat)(G:b<=36)(J:s.length<=1099511627776) :
 Calls prog 252 #[S_ s,I_ (b:Int)] w fun e w'=>e=.returned (.tuple #[.int .u64 ((dE.fC s b).1:Int),.bool (dE.fC s b).2])/\K_ w w':=by
 have c:Hid (dE.fC s b=match dE.qp b s 0 with
  | none=>(0,false)
  | some n=>(n,!s.isEmpty)):=h_ rfl
 generalize dE.fC s b=r at c |-;go_enter func252,ntmps252;go_wp2_with fail
 go_loopw [6,11] (fun C p wr=>∃ (i n:Nat),C=.int .u64 (n:Int)/\p=I_ (i:Int)/\i<=s.length/\n<18446744073709551616/\dE.qp b (s.drop i) n=dE.qp b s 0/\K_ w wr) (fun _ p _=>s.length-(intOf p).toNat)
 case atStart=>exact⟨0,0,rfl,rfl,Nat.zero_le _,by decide,rfl,cq.refl _ _⟩
 case round =>
  obtain⟨i,n,rfl,rfl,H,I,u,o⟩:=hrel;have j:=h_ u;clear u;by_cases v:i<s.length
  . have D:(i:Int)<s.length:=by omega
    go_wp2_with fail;have t:s.drop i=s[i] :: s.drop (i+1):=(List.drop_eq_getElem_cons v);have m:=j.out;rw[t,dE.Hw]at m;have A:=dE.Ls s[i].toNat;have q:=h_ (Hf wr s[i].toNat s[i].toNat_lt);generalize dE.l0 (s[i].toNat:Nat)=g at m A q;refine eD q.out ?_;have f:=h_ m;clear m t j;by_cases d:g<0
    . have x:decide (g<0)=true:=decide_eq_true d
      have a:=f.out;rw[if_pos (.inl d)]at a;have h:r=(0,false):=by rw[c.out,<- a]
      subst h;clear c f d;go_wp2;go_ret2;exact⟨rfl,o⟩
    . have x:decide (g<0)=false:=decide_eq_false d
      obtain⟨k,rfl⟩:∃ k:Nat,g=k:=⟨g.toNat,by omega⟩;by_cases l:(b:Int)<=(k:Int)
      . have y:b<=k:=by omega
        have a:=f.out;rw[if_pos (.inr l)]at a;have h:r=(0,false):=by rw[c.out,<- a]
        subst h;clear c f d l;go_wp2;go_ret2;exact⟨rfl,o⟩
      . have y:¬ b<=k:=by omega
        have a:=f.out;rw[if_neg (fun e=>e.elim d l)]at a;rw[Int.toNat_natCast]at a;have E:IntKind.u64.wrap (b:Int)=b:=by rw[IntKind.wrap_u64];omega
        have F:IntKind.u64.wrap (k:Int)=k:=by rw[IntKind.wrap_u64];omega
        clear f d l;go_wp2;go_roundw;case rel =>
         refine⟨i+1,(n*b+k) % 18446744073709551616,?_,rfl,by omega,Nat.mod_lt _ (by decide),a,o⟩;congr 1;rw[IntKind.wrap_u64,IntKind.wrap_u64];simp only[Int.natCast_emod,Int.natCast_add,Int.natCast_mul];generalize (n:Int)*(b:Int)=z;rw[show((18446744073709551616:Nat):Int)=18446744073709551616 from rfl];omega
        case measure=>simp[intOf];omega
  . have B:i=s.length:=by omega
    subst B;have a:=j.out;rw[List.drop_length]at a;have h:r=(n,!s.isEmpty):=by rw[c.out,<- a];rfl
    subst h;clear c j v;go_wp2;go_ret2;exact⟨rfl,o⟩
namespace dE
def jY(s:List UInt8):Bool:=match s with | [a,_,c]=>a == 39 && c == 39 | _=>false
def gQ(s:List UInt8)(b:Int):List UInt8 × Int:=match s with
 | c :: t=>if 0<jW c.toNat then(t,jW c.toNat)else(s,b)
 | []=>(s,b)
def signed(s:List UInt8)(b:Int):Int × Bool:=match s with
 | c :: t=>if c=45 then(wrap64 (-((fC t b.toNat).1:Int)),(fC t b.toNat).2)else(wrap64 (fC s b.toNat).1,(fC s b.toNat).2)
 | []=>(0,false)
def vd(s:List UInt8)(b:Int):Int × Bool:=if right b=false then(0,false)else if(signed s b).2=false then(0,false)else signed s b
def lH(s:List UInt8)(b:Int):Int × Bool :=
 if jY s then((s.getD 1 0).toNat,true)else vd (gQ s b).1 (gQ s b).2
theorem Lt{b:Int}(h:right b=true):∃ k:Nat,b=k/\k<=36:=by
 unfold right at h;simp at h;exact⟨b.toNat,by omega,by omega⟩
end dE
theorem Fg(x:UInt8):((x.toNat:Int)=39) ↔ x=39:=⟨fun h=>UInt8.toNat_inj.1 (by rw[show(39:UInt8).toNat=39 from rfl];omega),fun h=>by subst h;rfl⟩
theorem Tm(x:UInt8):((x.toNat:Int)=45) ↔ x=45:=⟨fun h=>UInt8.toNat_inj.1 (by rw[show(45:UInt8).toNat=45 from rfl];omega),fun h=>by subst h;rfl⟩
theorem AL(c:UInt8)(t:List UInt8):Value.string ((⟨(c :: t).toArray⟩:ByteArray).extract 1 (t.length+1))=S_ t:=by
 rw[jg (c :: t) 1 (t.length+1) (by omega)];simp
theorem O8(z:Int):wrap64 (IntKind.u64.wrap z)=wrap64 z:=by rw[IntKind.wrap_u64];unfold wrap64;omega
def dE.Lw(s:List UInt8):Bool:=match s with | c :: _=>decide (0<dE.jW c.toNat) | []=>false
def dE.tY(s:List UInt8):Bool:=match s with | c :: _=>c == 45 | []=>false
theorem Hy(w:World)(s:List UInt8)(b:Int)(C:s.length<=1099511627776) :
 Calls prog 144 #[S_ s,I_ b] w fun e w'=>e=.returned (.tuple #[I_ (dE.lH s b).1,.bool (dE.lH s b).2])/\K_ w w':=by
 have T:dE.lH s b=if dE.jY s then(((s.getD 1 0).toNat:Int),true)else dE.vd (dE.gQ s b).1 (dE.gQ s b).2:=rfl;generalize dE.lH s b=R at T |-;have F:=h_ T;clear T;go_enter func144,ntmps144;go_upto_region 1 with fail
 go_cut [21] (fun v D=>v=.bool (dE.jY s)/\D=w)
 case first =>
  match s,C with
  | [],_ =>
   go_wp2;go_meet;exact⟨rfl,rfl⟩
  | [_],_ =>
   go_wp2;go_meet;exact⟨rfl,rfl⟩
  | [_,_],_ =>
   go_wp2;go_meet;exact⟨rfl,rfl⟩
  | [x,y,z],_ =>
   by_cases p:x=39
   . have d1:(x.toNat:Int)=39:=(Fg x).2 p
     by_cases h:z=39
     . have Q:(z.toNat:Int)=39:=(Fg z).2 h
       have j:=h_ (show dE.jY [x,y,z]=true by subst p h;rfl);clear p h;go_wp2;go_meet;refine⟨congrArg Value.bool ?_,rfl⟩;show((z.toNat:Int) == 39)=_;rw[j.out];simp[Q]
     . have Q:¬ (z.toNat:Int)=39:=mt (Fg z).1 h
       have j:=h_ (show dE.jY [x,y,z]=false by subst p;show(true && (z == 39))=false;simp[h]);clear p h;go_wp2;go_meet;refine⟨congrArg Value.bool ?_,rfl⟩;show((z.toNat:Int) == 39)=_;rw[j.out];simp[Q]
   . have d1:¬ (x.toNat:Int)=39:=mt (Fg x).1 p
     have j:=h_ (show dE.jY [x,y,z]=false by show((x == 39) && (z == 39))=false;simp[p]);clear p;go_wp2;go_meet;exact⟨congrArg Value.bool j.out.symm,rfl⟩
  | x :: y :: z :: u :: t,_ =>
   obtain⟨n,J⟩:∃ n:Nat,n=(x :: y :: z :: u :: t).length:=⟨_,rfl⟩;have j:=h_ (show dE.jY (x :: y :: z :: u :: t)=false from rfl);have h4:¬ (n:Int)=3:=by rw[J];simp;omega
   have h5:((x :: y :: z :: u :: t).length:Int)=n:=by rw[J]
   generalize (x :: y :: z :: u :: t)=s at *;go_wp2;go_meet;exact⟨congrArg Value.bool j.out.symm,rfl⟩
 case rest =>
  obtain⟨rfl,rfl⟩:=hcut;cases U:dE.jY s with
  | true =>
   have j:=h_ U;match s,C,U with
   | [x,y,z],_,_ =>
    have hw:wrap64 (y.toNat:Int)=y.toNat:=IntWalk.wrap64_in _ (by have:=y.toNat_lt;omega);go_wp2;go_ret2;have i:=F.out;rw[j.out,if_pos rfl]at i;rw[i];refine⟨?_,cq.refl _ _⟩;show Ending.returned (.tuple #[I_ (wrap64 ((y.toNat:Nat):Int)),.bool true])=_;rw[hw];rfl
  | false =>
   have i:=F.out;rw[U,if_neg (by simp)]at i;replace F:=h_ i;clear i;go_upto_region 3 with fail;obtain⟨r,W⟩:∃ r,r=wc:=⟨_,rfl⟩;subst W
   go_cut [32] (fun v D=>v=.bool (dE.Lw s)/\D=r)
   case first =>
    match s,C with
    | [],_ =>
     go_wp2;go_meet;exact⟨rfl,rfl⟩
    | c :: t,_ =>
     have hl:(c :: t).length=t.length+1:=rfl;go_wp2_with fail;refine eD (uU r c.toNat c.toNat_lt) ?_;go_wp2;go_meet;exact⟨rfl,rfl⟩
   case rest =>
    obtain⟨rfl,rfl⟩:=hcut
    go_upto_if 32 with fail
    obtain⟨r,W⟩:∃ r,r=wc:=⟨_,rfl⟩;subst W
    go_cut [0,1] (fun v0 v1 D=>v0=.string ⟨(dE.gQ s b).1.toArray⟩/\v1=I_ (dE.gQ s b).2/\K_ r D)
    case first =>
     match s,C with
     | [],_ =>
      go_wp2;go_meet;exact⟨rfl,rfl,cq.refl _ _⟩
     | c :: t,_ =>
      have ab:dE.gQ (c :: t) b=if 0<dE.jW c.toNat then(t,dE.jW c.toNat)else(c :: t,b):=rfl;have hb:dE.Lw (c :: t)=decide (0<dE.jW c.toNat):=rfl;have aa:=h_ fun V=>uU V c.toNat c.toNat_lt;have B:=h_ ab;rw[hb];clear hb ab F;generalize dE.jW (c.toNat:Nat)=k at aa B |-;by_cases H:0<k
      . have h:=B.out
        rw[if_pos H]at h;replace B:=h_ h;rw[decide_eq_true H];have O:=h_ (AL c t);have S:(1:Int)<=((c :: t).length:Int):=by simp;omega
        have h2:((c :: t).length:Int)=(t.length:Int)+1:=by simp
        clear H h;go_wp2_with fail
        go_region_with (go_at_call 251;refine eD (aa.out _) ?_)
        all_goals
         go_wp2;go_meet;rw[B.out];exact⟨O.out,rfl,cq.drew _ _⟩
      . have h:=B.out
        rw[if_neg H]at h;replace B:=h_ h;rw[decide_eq_false H];clear H h;go_wp2;go_meet;rw[B.out];exact⟨rfl,rfl,cq.refl _ _⟩
    case rest =>
     obtain⟨rfl,rfl,k0⟩:=hcut;have P:=h_ k0
     have E:=h_ (show(dE.gQ s b).1.length<=1099511627776 from by
      unfold dE.gQ;split
      . split
        . simp only[List.length_cons]at C |-;omega
        . exact C
      . exact C)
     generalize (dE.gQ s b).1=g at *;generalize (dE.gQ s b).2=G at *;have M:=h_ (pB wc G);have o:dE.vd g G=if dE.right G=false then(0,false)else if(dE.signed g G).2=false then(0,false)else dE.signed g G:=rfl;clear k0;cases i:dE.right G with
     | false =>
      rw[i]at M o;rw[if_pos rfl]at o;have d:=h_ (F.out.trans o);clear o i;go_wp2_with fail;refine eD M.out ?_;go_wp2;go_ret2;rw[d.out];exact⟨rfl,P.out⟩
     | true =>
      obtain⟨n,rfl,J⟩:=dE.Lt i;rw[i]at M o;rw[if_neg (by simp)]at o;have d:=h_ (F.out.trans o);have Z:=h_ J;clear o i J;go_upto_region 7 with (refine eD M.out ?_);obtain⟨Y,ad⟩:∃ Y,Y=wc:=⟨_,rfl⟩;subst ad
      go_cut [6] (fun v D=>v=.bool (dE.tY g)/\D=Y)
      case first =>
       match g,E with
       | [],_ =>
        go_wp2;go_meet;exact⟨rfl,rfl⟩
       | c :: t,_ =>
        have h0:(c :: t).length=t.length+1:=rfl;go_wp2;go_meet;refine⟨congrArg Value.bool ?_,rfl⟩;show((c.toNat:Int) == 45)=(c == 45);by_cases l:c=45
        . subst l;rfl
        . have S:¬ (c.toNat:Int)=45:=mt (Tm c).1 l
          rw[beq_eq_false_iff_ne.2 S,beq_eq_false_iff_ne.2 l]
      case rest =>
       obtain⟨rfl,rfl⟩:=hcut;cases m:dE.tY g with
       | true =>
        match g,d,E,m with
        | c :: t,d,E,m =>
         have l:c=45:=by simpa[dE.tY] using m
         have O:=h_ (AL c t);have S:(1:Int)<=((c :: t).length:Int):=by simp;omega
         have h2:((c :: t).length:Int)=(t.length:Int)+1:=by simp
         have K:dE.signed (c :: t) (n:Int)=(wrap64 (-((dE.fC t n).1:Int)),(dE.fC t n).2):=by subst l;rfl
         have A:=h_ fun V=>ti V t n Z.out (by have:=E.out;simp only[List.length_cons]at this;omega);have a:=d.out;rw[K]at a;clear d E K l m;generalize dE.fC t n=q at a A;obtain⟨f,X⟩:=q;simp only at a A;have d:=h_ a;clear a;go_wp2_with fail;rw[O.out];refine(A.out _).mono ?_;rintro e w2 ⟨rfl,L⟩;have I:=h_ (P.out.trans L);clear L;cases X with
         | true =>
          go_wp2;go_ret2;have a:R=(wrap64 (IntKind.u64.wrap (-(f:Int))),true):=by rw[d.out,if_neg (by simp),O8]
          rw[a];exact⟨rfl,I.out⟩
         | false =>
          go_wp2;go_ret2;rw[d.out];exact⟨rfl,I.out⟩
       | false =>
        have K:dE.signed g (n:Int)=(if g=[] then(0,false)else(wrap64 (dE.fC g n).1,(dE.fC g n).2)):=by
         match g,m with
         | [],_=>rfl
         | c :: t,m =>
          have l:¬ c=45:=by simpa[dE.tY] using m
          unfold dE.signed;simp only[l,if_false];rfl
        have N:g=[]->(dE.fC g n).2=false:=by intro e;subst e;rfl
        have A:=h_ fun V=>ti V g n Z.out E.out;have a:=d.out;rw[K]at a;clear d K m;generalize dE.fC g n=q at a A N;obtain⟨f,X⟩:=q;simp only at a A N;have ac:=h_ N;have d:=h_ a;clear a N;go_wp2_with fail;refine(A.out _).mono ?_;rintro e w2 ⟨rfl,L⟩;have I:=h_ (P.out.trans L);clear L;cases X with
        | true =>
         have a:R=(wrap64 (f:Int),true):=by
          have h0:¬ g=[]:=fun e=>by have:=ac.out e;cases this
          rw[d.out,if_neg h0,if_neg (by simp)]
         replace d:=h_ a;clear a;go_wp2;go_ret2;rw[d.out];exact⟨rfl,I.out⟩
        | false =>
         have a:R=(0,false):=by
          rw[d.out];split <;> rfl
         replace d:=h_ a;clear a;go_wp2;go_ret2;rw[d.out];exact⟨rfl,I.out⟩
open Go.RowKit
namespace dE
def kC(c:UInt8):Bool:=decide (48<=c.toNat) && decide (c.toNat<=57)
theorem QF(d:Nat)(h:d<10):(oC d).toNat=48+d:=by
 unfold oC;rw[if_pos h];simp;omega
theorem O7(d:Nat)(h:d<10):l0 (oC d).toNat=d:=by
 rw[QF d h];unfold l0;rw[if_pos (by omega)];omega
theorem Lu(d:Nat)(h:d<10):kC (oC d)=true:=by
 unfold kC;rw[QF d h];simp;omega
theorem Dq(k n:Nat):∀ c ∈ eo 10 k n,kC c=true:=by
 induction k generalizing n with
 | zero=>intro c h;cases h
 | succ k a =>
  intro c h;unfold eo at h;rcases List.mem_cons.1 h with rfl | h
  . exact Lu _ (Nat.mod_lt _ (by decide))
  . split at h
    . cases h
    . exact a _ c h
theorem AI(b:Nat)(s t:List UInt8)(n:Nat):qp b (s++t) n=(qp b s n).bind (qp b t):=by
 induction s generalizing n with
 | nil=>rfl
 | cons c s a =>
  rw[List.cons_append,qp,qp];split
  . rfl
  . exact a _
theorem Hx(k n:Nat)(b:n<10 ^ k)(f:n<18446744073709551616):qp 10 (eo 10 k n).reverse 0=some n:=by
 induction k generalizing n with
 | zero =>
  have:n=0:=by simpa using b
  subst this;rfl
 | succ k d =>
  unfold eo;rw[List.reverse_cons,AI];have a:∀ m,qp 10 [oC (n % 10)] m=some ((m*10+n % 10) % 18446744073709551616):=by
   intro m;have c:=O7 (n % 10) (Nat.mod_lt _ (by decide));rw[qp,c,if_neg (by omega)];rfl
  split
  . rename_i e
    show(some 0).bind _=_;simp only[Option.bind_some];rw[a];congr 1;have:n<10:=by omega
    omega
  . rw[d (n / 10) (by rw[Nat.pow_succ]at b;omega) (by omega)]
    simp only[Option.bind_some];rw[a];congr 1;omega
theorem Ff(k n:Nat):eo 10 (k+1) n≠[]:=by unfold eo;simp
theorem ve(n:Nat)(a:n<18446744073709551616):fC (eo 10 64 n).reverse 10=(n,true):=by
 unfold fC;rw[Hx 64 n (Nat.lt_trans a (by decide)) a];have:=Ff 63 n;cases b:(eo 10 64 n).reverse with
 | nil=>simp at b;exact absurd b this
 | cons=>rfl
theorem rA(n:Int)(h:0<=n)(a:n<=9223372036854775807):gC n 10=(eo 10 64 n.toNat).reverse:=by
 unfold gC;rw[if_neg (by omega),Int.emod_eq_of_lt h (by omega)];rfl
theorem AJ(n:Int)(h:n<0):gC n 10=45 :: (eo 10 64 (-n).toNat).reverse:=by
 unfold gC;rw[if_pos ⟨h,by decide⟩];rfl
def fa(s:List UInt8):Bool:=(match s with | 45 :: t=>!t.isEmpty && t.all kC | s=>!s.isEmpty && s.all kC)
theorem Lv:kC 45=false:=by decide
theorem yY(n:Nat):(eo 10 64 n).reverse.all kC=true:=by
 rw[List.all_eq_true];intro c a;exact Dq 64 n c (List.mem_reverse.1 a)
theorem Dr(n:Nat):(eo 10 64 n).reverse≠[]:=by
 intro e;exact Ff 63 n (by simpa using e)
theorem Ds{s:List UInt8}(d:s≠[])(a:s.all kC=true):fa s=true:=by
 cases s with
 | nil=>exact absurd rfl d
 | cons c t =>
  have b:kC c=true:=by simp at a;exact a.1
  have f:c≠45:=fun e=>by rw[e,Lv]at b;cases b
  unfold fa;split
  . rename_i e
    injection e with e1 e2;exact absurd e1 f
  . simp only[Bool.and_eq_true]
    exact⟨rfl,a⟩
theorem nP(n:Int)(c : -9223372036854775808<=n)(a:n<=9223372036854775807):fa (gC n 10)=true:=by
 by_cases h:n<0
 . rw[AJ n h]
   unfold fa;simp only[Bool.and_eq_true];refine⟨?_,yY _⟩;cases b:(eo 10 64 (-n).toNat).reverse with
   | nil=>exact absurd b (Dr _)
   | cons=>rfl
 . rw[rA n (by omega) a]
   exact Ds (Dr _) (yY _)
theorem vf{c:UInt8}(h:kC c=true):48<=c.toNat/\c.toNat<=57:=by
 unfold kC at h;simpa using h
theorem AK(c:UInt8)(t:List UInt8)(h:c≠39):jY (c :: t)=false:=by
 unfold jY;split
 . rename_i a b d e
   injection e with e1 e2;subst e1;simp[h]
 . rfl
theorem tj(c:UInt8)(t:List UInt8)(b:Int)(h:c.toNat=45\/48<=c.toNat):gQ (c :: t) b=(c :: t,b):=by
 unfold gQ jW;simp only;rw[if_neg];rw[if_neg (by omega),if_neg (by omega),if_neg (by omega)];omega
theorem qq(n:Int)(i : -9223372036854775808<=n)(f:n<=9223372036854775807):lH (gC n 10) 10=(n,true):=by
 by_cases h:n<0
 . rw[AJ n h]
   unfold lH;rw[AK _ _ (by decide),tj _ _ _ (.inl rfl)];have d:signed (45 :: (eo 10 64 (-n).toNat).reverse) 10=(n,true):=by
    unfold signed;dsimp only;rw[if_pos rfl];show(wrap64 (-((fC (eo 10 64 (-n).toNat).reverse 10).1:Int)),(fC (eo 10 64 (-n).toNat).reverse 10).2)=_;rw[ve _ (by omega)];refine Prod.ext ?_ rfl;show wrap64 (-(((-n).toNat:Nat):Int))=n;unfold wrap64;omega
   unfold vd;rw[d];simp[right]
 . rw[rA n (by omega) f]
   cases b:(eo 10 64 n.toNat).reverse with
   | nil=>exact absurd b (Dr _)
   | cons c t =>
    have g:kC c=true:=List.all_eq_true.1 (yY n.toNat) c (by rw[b];simp);have a:=vf g;unfold lH;rw[AK _ _ (fun e=>by rw[e]at a;revert a;decide),tj _ _ _ (.inr a.1)];have d:signed (c :: t) 10=(n,true):=by
     unfold signed;dsimp only;rw[if_neg (show ¬ c=45 from fun e=>by rw[e]at a;revert a;decide),<- b];show(wrap64 ((fC (eo 10 64 n.toNat).reverse 10).1:Int),(fC (eo 10 64 n.toNat).reverse 10).2)=_;rw[ve _ (by omega)];refine Prod.ext ?_ rfl;show wrap64 ((n.toNat:Nat):Int)=n;unfold wrap64;omega
    unfold vd;simp only[Bool.false_eq_true,if_false];rw[d];simp[right]
end dE
end Go.Proofs.dS
