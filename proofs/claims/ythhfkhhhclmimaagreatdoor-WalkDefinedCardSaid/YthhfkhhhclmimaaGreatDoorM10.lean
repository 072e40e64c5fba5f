/- A part of WalkG. No condition. -/
import Derived.Test.YthhfkhhhclmimaaGreatDoorM08
import Derived.Test.YthhfkhhhclmimaaGreatDoorProg
import Derived.DeepKeys4
set_option linter.unusedVariables false
set_option linter.unusedSimpArgs false
open Go.Proofs.Tryz
set_option maxRecDepth 10000
set_option maxHeartbeats 4000000
namespace Go.Proofs.K
open Go Go.RowKit Go.Maps
theorem xq:laidOutB prog=true:=by kernel_rfl
theorem xr:(331:TypeId)<prog.types.size:=of_decide_eq_true (by kernel_rfl)
theorem CW:(match prog.underlying 331 with | some (.array _ _) | some (.struct _)=>true | _=>false)=true:=by kernel_rfl
theorem xu:WideMaps.KeyLaw prog 331:=deep_law_laid xq (m:=2) (by omega) xr (by kernel_rfl) CW
theorem oQ:prog.cellsOf 331=2:=by kernel_rfl
theorem uS:prog.keyType 331=true:=by kernel_rfl
theorem OE:(389:TypeId)<prog.types.size:=of_decide_eq_true (by kernel_rfl)
theorem Kt:(match prog.underlying 389 with | some (.array _ _) | some (.struct _)=>true | _=>false)=true:=by kernel_rfl
theorem E':WideMaps.KeyLaw prog 389:=deep_law_laid xq (m:=2) (by omega) OE (by kernel_rfl) Kt
theorem sq:prog.cellsOf 389=3:=by kernel_rfl
theorem Aq:prog.keyType 389=true:=by kernel_rfl
theorem G8:prog.cellsOf 2=1:=by kernel_rfl
theorem G':prog.cellsOf 3=1:=by kernel_rfl
theorem Ha:prog.cellsOf 361=1:=by kernel_rfl
theorem Hb:prog.cellsOf 9=1:=by kernel_rfl
theorem Ar:∃ m,prog.types.size=m+1:=by
 have h:=xr;generalize prog.types.size=n at h;cases n with
 | zero=>exact absurd h (Nat.not_lt_zero _)
 | succ m=>exact⟨m,rfl⟩
def lF(q0:IntKind):Value->Option (List Lit)
 | .int q n=>if q=q0/\(Lit.int q0 n).wf=true then some [.int q0 n] else none
 | _=>none
def As:Value->Option (List Lit)
 | .string s=>if s.size<=maxLen then some [.string s.data.toList] else none
 | _=>none
theorem pA{a:IntKind}{v:Value}{l:List Lit}(h:lF a v=some l):∃ n,v=.int a n/\(Lit.int a n).wf=true/\l=[.int a n]:=by
 cases v <;> simp only[lF,reduceCtorEq]at h
 split at h
 . rename_i c
   obtain⟨rfl,b⟩:=c;exact⟨_,rfl,b,(Option.some.inj h).symm⟩
 . cases h
theorem Hc{v:Value}{l:List Lit}(h:As v=some l):∃ s:List UInt8,v=S_ s/\s.length<=maxLen/\l=[.string s]:=by
 cases v <;> simp only[As,reduceCtorEq]at h
 split at h
 . rename_i s a
   exact⟨s.data.toList,rfl,a,(Option.some.inj h).symm⟩
 . cases h
theorem Ku(m:Nat)(x:Value):prog.keyLits (m+1) 2 [x]=lF .i64 x:=by
 unfold Program.keyLits;rw[underlying2];cases x <;> rfl
theorem Kv(m:Nat)(x:Value):prog.keyLits (m+1) 3 [x]=lF .i64 x:=by
 unfold Program.keyLits;rw[underlying3];cases x <;> rfl
theorem Kw(m:Nat)(x:Value):prog.keyLits (m+1) 361 [x]=lF .u32 x:=by
 unfold Program.keyLits;rw[underlying361];cases x <;> rfl
theorem Kx(m:Nat)(x:Value):prog.keyLits (m+1) 9 [x]=As x:=by
 unfold Program.keyLits;rw[underlying9];cases x <;> rfl
theorem CX(m:Nat)(a b:Value):prog.keyLits (m+1+1) 331 [a,b]=(lF .i64 a).bind fun x=>(lF .i64 b).bind fun y=>some (x++y):=by
 unfold Program.keyLits;rw[underlying331];dsimp only;rw[if_pos (by rw[oQ];exact⟨rfl,by simp⟩)];simp only[List.mapM_cons,List.mapM_nil,G8,List.drop,List.take,Ku,Option.map];cases lF .i64 a with
 | none=>rfl
 | some x=>cases lF .i64 b with
  | none=>rfl
  | some y=>simp
theorem Ky(m:Nat)(a b c:Value):prog.keyLits (m+1+1) 389 [a,b,c]=(lF .u32 a).bind fun x=>(lF .i64 b).bind fun y=>(As c).bind fun z=>some (x++(y++z)):=by
 unfold Program.keyLits;rw[underlying389];dsimp only;rw[if_pos (by rw[sq];exact⟨rfl,by simp⟩)];simp only[List.mapM_cons,List.mapM_nil,G',Ha,Hb,List.drop,List.take,Kw,Kv,Kx,Option.map];cases lF .u32 a with
 | none=>rfl
 | some x=>cases lF .i64 b with
  | none=>rfl
  | some y=>cases As c with
   | none=>rfl
   | some z=>simp
theorem yP(a b:Value):(Value.agg #[a,b]).formed prog 331=true:=by simp[Value.formed,underlying331,oQ]
theorem CY(a b c:Value):(Value.agg #[a,b,c]).formed prog 389=true:=by simp[Value.formed,underlying389,sq]
theorem Au(a b:Value):keyOf prog 331 (.agg #[a,b])=((lF .i64 a).bind fun x=>(lF .i64 b).bind fun y=>some (x++y)).map fun ls=>.string (keyBytes ls):=by
 obtain⟨m,c⟩:=Ar;unfold keyOf;rw[underlying331];dsimp only;rw[uS,yP,c];have e:(Value.agg #[a,b]).cells.toList=[a,b]:=rfl;rw[e,CX];rfl
theorem Kz(a b c:Value):keyOf prog 389 (.agg #[a,b,c])=((lF .u32 a).bind fun x=>(lF .i64 b).bind fun y=>(As c).bind fun z=>some (x++(y++z))).map fun ls=>.string (keyBytes ls):=by
 obtain⟨m,d⟩:=Ar;unfold keyOf;rw[underlying389];dsimp only;rw[Aq,CY,d];have e:(Value.agg #[a,b,c]).cells.toList=[a,b,c]:=rfl;rw[e,Ky];rfl
theorem Th{a:Array Value}(h:a.size=2):∃ x y,a=#[x,y]:=by
 obtain⟨l⟩:=a;match l,h with
 | [x,y],_=>exact⟨x,y,rfl⟩
theorem Ti{a:Array Value}(h:a.size=3):∃ x y z,a=#[x,y,z]:=by
 obtain⟨l⟩:=a;match l,h with
 | [x,y,z],_=>exact⟨x,y,z,rfl⟩
theorem Hd{v:Value}{c:Lit}(h:keyOf prog 331 v=some c):∃ a b,v=.agg #[a,b]:=by
 unfold keyOf at h;rw[underlying331]at h;dsimp only at h;rw[uS]at h;cases v <;> simp[Value.formed,underlying331,oQ]at h
 obtain⟨x,y,rfl⟩:=Th h.1;exact⟨x,y,rfl⟩
theorem OF{v:Value}{d:Lit}(h:keyOf prog 389 v=some d):∃ a b c,v=.agg #[a,b,c]:=by
 unfold keyOf at h;rw[underlying389]at h;dsimp only at h;rw[Aq]at h;cases v <;> simp[Value.formed,underlying389,sq]at h
 obtain⟨x,y,z,rfl⟩:=Ti h.1;exact⟨x,y,z,rfl⟩
def oR(p:Int × Int):Value:=.agg #[I_ p.1,I_ p.2]
def rf(p:Int × Int):Lit:=.string (keyBytes [.int .i64 p.1,.int .i64 p.2])
def rh(p:Int × Int):Prop:=(Lit.int .i64 p.1).wf=true/\(Lit.int .i64 p.2).wf=true
theorem oS(p:Int × Int)(h:rh p):keyOf prog 331 (oR p)=some (rf p):=by
 rw[oR,Au];simp[lF,h.1,h.2,rf]
theorem He(v:Value)(e:Lit)(h:keyOf prog 331 v=some e):∃ p,rh p/\v=oR p/\e=rf p:=by
 obtain⟨a,b,rfl⟩:=Hd h;rw[Au]at h;cases c:lF .i64 a with
 | none=>rw[c]at h;cases h
 | some x=>cases d:lF .i64 b with
  | none=>rw[c,d]at h;cases h
  | some y =>
   rw[c,d]at h;obtain⟨n,rfl,g,rfl⟩:=pA c;obtain⟨f,rfl,i,rfl⟩:=pA d;exact⟨(n,f),⟨g,i⟩,rfl,(Option.some.inj h).symm⟩
abbrev Place:={p:Int × Int // rh p}
def iN:oN Tryz.prog 331 Place where
 val p:=oR p.1
 lit p:=rf p.1
 ok _:=True
 kd:=Keyed.of_law xu
 reads p _:=oS p.1 p.2
 inv v kl h:=by
  obtain⟨p,h1,h2,h3⟩:=He v kl h;exact⟨⟨p,h1⟩,trivial,h2,h3⟩
 inj x y h:=by
  have h1:=oS x.1 x.2;have h2:=oS y.1 y.2;rw[<- h]at h2;have e:=xu.inj h1 h2;unfold oR at e;injection e with e
  have e1:([Value.int .i64 x.1.1,Value.int .i64 x.1.2]:List Value)=[Value.int .i64 y.1.1,Value.int .i64 y.1.2]:=congrArg Array.toList e;injection e1 with e1 e2
  injection e2 with e2 _
  injection e1 with _ e1
  injection e2 with _ e2
  exact Subtype.ext (Prod.ext e1 e2)
 NW x:=trivial
def mz(p:Int × Int × List UInt8):Value:=.agg #[.int .u32 p.1,I_ p.2.1,S_ p.2.2]
def yQ(p:Int × Int × List UInt8):Lit:=.string (keyBytes [.int .u32 p.1,.int .i64 p.2.1,.string p.2.2])
def xv(p:Int × Int × List UInt8):Prop:=(Lit.int .u32 p.1).wf=true/\(Lit.int .i64 p.2.1).wf=true/\p.2.2.length<=maxLen
theorem OG(s:List UInt8)(h:s.length<=maxLen):As (S_ s)=some [.string s]:=by
 show(if(⟨s.toArray⟩:ByteArray).size<=maxLen then some [Lit.string s] else none)=_;rw[if_pos (show(⟨s.toArray⟩:ByteArray).size<=maxLen from h)]
theorem su(p:Int × Int × List UInt8)(h:xv p):keyOf prog 389 (mz p)=some (yQ p):=by
 rw[mz,Kz,OG _ h.2.2];simp[lF,h.1,h.2.1,yQ]
theorem OH(v:Value)(g:Lit)(h:keyOf prog 389 v=some g):∃ p,xv p/\v=mz p/\g=yQ p:=by
 obtain⟨a,b,c,rfl⟩:=OF h;rw[Kz]at h;cases d:lF .u32 a with
 | none=>rw[d]at h;cases h
 | some x=>cases e:lF .i64 b with
  | none=>rw[d,e]at h;cases h
  | some y=>cases f:As c with
   | none=>rw[d,e,f]at h;cases h
   | some z =>
    rw[d,e,f]at h;obtain⟨n,rfl,j,rfl⟩:=pA d;obtain⟨i,rfl,l,rfl⟩:=pA e;obtain⟨s,rfl,m,rfl⟩:=Hc f;exact⟨(n,i,s),⟨j,l,m⟩,rfl,(Option.some.inj h).symm⟩
abbrev OI:={p:Int × Int × List UInt8 // xv p}
def nL:oN Tryz.prog 389 OI where
 val p:=mz p.1
 lit p:=yQ p.1
 ok _:=True
 kd:=Keyed.of_law E'
 reads p _:=su p.1 p.2
 inv v kl h:=by
  obtain⟨p,h1,h2,h3⟩:=OH v kl h;exact⟨⟨p,h1⟩,trivial,h2,h3⟩
 inj x y h:=by
  have h1:=su x.1 x.2;have h2:=su y.1 y.2;rw[<- h]at h2;have e:=E'.inj h1 h2;unfold mz at e;injection e with e
  have e1:([Value.int .u32 x.1.1,Value.int .i64 x.1.2.1,Value.string ⟨x.1.2.2.toArray⟩]:List Value)=[Value.int .u32 y.1.1,Value.int .i64 y.1.2.1,Value.string ⟨y.1.2.2.toArray⟩]:=congrArg Array.toList e;injection e1 with e1 e2
  injection e2 with e2 e3
  injection e3 with e3 _
  injection e1 with _ e1
  injection e2 with _ e2
  injection e3 with e3
  have e4:x.1.2.2=y.1.2.2:=by
   have:=congrArg (fun b:ByteArray=>b.data.toList) e3
   simpa using this
  exact Subtype.ext (Prod.ext e1 (Prod.ext e2 e4))
 NW x:=trivial
section
variable {P:Program} {k:TypeId} {α:Type}
def gone[DecidableEq α](f:α->Option Value)(x:α):α->Option Value:=fun y=>if y=x then none else f y
theorem fj.del[DecidableEq α]{kk:oN P k α}{D:DataW Value}{f:α->Option Value}(h:fj kk D f)(x:α):fj kk (D.del (kk.lit x)) (gone f x):=by
 constructor
 . intro y hy
   unfold gone;by_cases e:y=x
   . subst e
     rw[if_pos rfl,has_del_same];rfl
   . rw[if_neg e,has_del_other (fun e'=>e (kk.inj _ _ e'))]
     exact h.1 y hy
 . intro y u hy hu z
   unfold gone at hu;by_cases e:y=x
   . rw[if_pos e]at hu
     cases hu
   . rw[if_neg e]at hu
     rw[atKey_del_other (fun e'=>e (kk.inj _ _ e'))];exact h.2 y u hy hu z
end
theorem uT{P:Program}{k:TypeId}{α:Type}(c:oN P k α){w:World}{b n:Nat}{f:α->Option Value}(t e:TypeId)(o:P.underlying t=some (.map k e))(h:cX c w b n f)(z:Value)(q:(zeroValue e).run P w=.ok z w)(a:α)(g:c.ok a) :
 (Instr.lookup t (.map (some b)) (c.val a) false).run P w=.ok ((f a).getD z) w:=by
 obtain⟨D,h,l⟩:=h;obtain⟨v,r,m,p⟩:=h.lookup c.kd o q (show RV z=some (.held z,[]) from rfl) (c.reads a g);have d:D.atKey (c.lit a) (.held z)=.held v:=(congrArg Prod.fst (Option.some.inj p)).symm;rw[m];cases i:f a with
 | none =>
  have j:=l.1 a g;rw[i]at j;rw[atKey_of_not_has j]at d;cases d;rfl
 | some u =>
  rw[l.2 a u g i]at d;cases d;rfl
theorem Av{P:Program}{k:TypeId}{α:Type}(c:oN P k α){w:World}{b n:Nat}{f:α->Option Value}(t e:TypeId)(o:P.underlying t=some (.map k e))(h:cX c w b n f)(z:Value)(q:(zeroValue e).run P w=.ok z w)(a:α)(d:c.ok a) :
 (Instr.lookup t (.map (some b)) (c.val a) true).run P w=.ok (.tuple #[(f a).getD z,.bool (f a).isSome]) w:=by
 obtain⟨D,h,i⟩:=h;obtain⟨v,r,m,p⟩:=h.look_ok c.kd o q (show RV z=some (.held z,[]) from rfl) (c.reads a d);have g:D.atKey (c.lit a) (.held z)=.held v:=(congrArg Prod.fst (Option.some.inj p)).symm;rw[m,i.1 a d];cases j:f a with
 | none =>
  have l:=i.1 a d;rw[j]at l;rw[atKey_of_not_has l]at g;cases g;rfl
 | some u =>
  rw[i.2 a u d j]at g;cases g;rfl
theorem Fa{P:Program}{k:TypeId}{α:Type}[DecidableEq α](kk:oN P k α){w:World}{b n:Nat}{f:α->Option Value}(t e:TypeId)(ht:P.underlying t=some (.map k e))(hown:cX kk w b n f)(hn:n<maxLen)(key:α)(hok:kk.ok key)(val:Value) :
 ∃ w',(Instr.mapUpdate t (.map (some b)) (kk.val key) val).run P w=.ok () w'/\cX kk w' b (n+1) (ny f key val)/\cq (fun g=>g=b) w w':=by
 obtain⟨D,hown,hr⟩:=hown;have hD:=(hown.tidy kk.kd).isMap;obtain⟨w',hrun,r1,r2⟩:=hown.update kk.kd ht hn (kk.reads key hok) (show RV val=some (.held val,[]) from rfl);exact⟨w',hrun,⟨_,r1,hr.put hD key val⟩,cq.grown (S:=fun g=>g=b) r2 (fun j _ e=>(Option.some.inj e).symm)⟩
theorem wf_i64{n:Int}(c : -9223372036854775808<=n)(d:n<=9223372036854775807):(Lit.int .i64 n).wf=true:=by
 have a:IntKind.i64.min = -9223372036854775808:=by decide
 have b:IntKind.i64.max=9223372036854775807:=by decide
 show(decide (IntKind.i64.min<=n) && decide (n<=IntKind.i64.max))=true;rw[a,b,decide_eq_true c,decide_eq_true d];rfl
theorem Rl{n:Int}(c:0<=n)(d:n<4294967296):(Lit.int .u32 n).wf=true:=by
 have a:IntKind.u32.min=0:=by decide
 have b:IntKind.u32.max=4294967295:=by decide
 show(decide (IntKind.u32.min<=n) && decide (n<=IntKind.u32.max))=true;rw[a,b,decide_eq_true c,decide_eq_true (show n<=4294967295 by omega)];rfl
end Go.Proofs.K
