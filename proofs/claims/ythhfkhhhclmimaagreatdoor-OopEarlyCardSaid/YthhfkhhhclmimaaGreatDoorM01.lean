/- A part of EarlyG. No condition. -/
set_option linter.unusedVariables false
set_option linter.unusedSimpArgs false
namespace Go.Proofs.dS
structure Mem where
 size:Nat
 bits:Nat
 deriving DecidableEq
namespace Mem
def get(m:Mem)(a n:Nat):Nat:=(m.bits >>> (8*a)) % 2 ^ (8*n)
def put(m:Mem)(a n v:Nat):Mem:={ m with bits:=m.bits ^^^ ((((m.bits >>> (8*a)) % 2 ^ (8*n)) ^^^ (v % 2 ^ (8*n))) <<< (8*a)) }
abbrev byte(m:Mem)(a:Nat):Nat:=m.get a 1
theorem gZ(m:Mem)(a n v:Nat):(m.put a n v).size=m.size:=rfl
theorem nB(m:Mem)(a n v j:Nat):(m.put a n v).bits.testBit j=if 8*a<=j/\j<8*a+8*n then v.testBit (j-8*a)else m.bits.testBit j:=by
 simp only[put,Nat.testBit_xor,Nat.testBit_shiftLeft,Nat.testBit_mod_two_pow,Nat.testBit_shiftRight]
 by_cases h1:8*a<=j
 . by_cases h2:j<8*a+8*n
   . have h3:j-8*a<8*n:=by omega
     have h4:8*a+(j-8*a)=j:=by omega
     simp[h1,h2,h3,h4]
   . have h3:¬ j-8*a<8*n:=by omega
     simp[h2,h3]
 . simp[h1]
theorem fK(m:Mem)(a n j:Nat):(m.get a n).testBit j=(decide (j<8*n) && m.bits.testBit (8*a+j)):=by
 simp only[get,Nat.testBit_mod_two_pow,Nat.testBit_shiftRight]
theorem lf(m:Mem)(a n:Nat):m.get a n<2 ^ (8*n):=Nat.mod_lt _ (Nat.two_pow_pos _)
theorem yu(m:Mem)(a:Nat):m.byte a<256:=m.lf a 1
theorem nC(m:Mem)(a n v:Nat):(m.put a n v).get a n=v % 2 ^ (8*n):=by
 apply Nat.eq_of_testBit_eq
 intro j;rw[fK,nB,Nat.testBit_mod_two_pow];by_cases h:j<8*n
 . have h2:8*a+j-8*a=j:=by omega
   simp[h,h2]
 . simp[h]
theorem hY(m:Mem)(a n v b k:Nat)(h:b+k<=a\/a+n<=b):(m.put a n v).get b k=m.get b k:=by
 apply Nat.eq_of_testBit_eq
 intro j;rw[fK,fK,nB];by_cases h1:j<8*k
 . rw[if_neg (by omega)]
 . simp[h1]
theorem p'(m:Mem)(a n v b k:Nat)(h1:a<=b)(h2:b+k<=a+n):(m.put a n v).get b k=(v >>> (8*(b-a))) % 2 ^ (8*k):=by
 apply Nat.eq_of_testBit_eq
 intro j;rw[fK,nB,Nat.testBit_mod_two_pow,Nat.testBit_shiftRight];by_cases h:j<8*k
 . rw[if_pos (by omega)]
   have:8*b+j-8*a=8*(b-a)+j:=by omega
   simp[h,this]
 . simp[h]
theorem ug(m:Mem)(a:Nat):m.get a 0=0:=by simp[get,Nat.mod_one]
theorem qL(m:Mem)(a v:Nat):m.put a 0 v=m:=by
 have:m.bits ^^^ ((((m.bits >>> (8*a)) % 2 ^ (8*0)) ^^^ (v % 2 ^ (8*0))) <<< (8*a))=m.bits:=by simp[Nat.mod_one]
 unfold put;rw[this]
theorem Jm(m:Mem)(a n:Nat):m.get a (n+1)=m.get a n ||| (m.byte (a+n) <<< (8*n)):=by
 apply Nat.eq_of_testBit_eq
 intro j;rw[Nat.testBit_or,Nat.testBit_shiftLeft,fK,fK,fK];by_cases h1:j<8*n
 . have h2:j<8*(n+1):=by omega
   have h3:¬ 8*n<=j:=by omega
   simp[h1,h2,h3]
 . by_cases h2:j<8*(n+1)
   . have h3:8*n<=j:=by omega
     have h4:j-8*n<8:=by omega
     have h5:8*(a+n)+(j-8*n)=8*a+j:=by omega
     simp[h1,h2,h3,h4,h5]
   . have h4:¬ j-8*n<8:=by omega
     simp[h1,h2,h4]
theorem uh(m:Mem)(a n v:Nat):m.put a (n+1) v=(m.put a n v).put (a+n) 1 (v >>> (8*n)):=by
 have:(m.put a (n+1) v).bits=((m.put a n v).put (a+n) 1 (v >>> (8*n))).bits:=by
  apply Nat.eq_of_testBit_eq
  intro j;rw[nB,nB,nB,Nat.testBit_shiftRight];by_cases h1:8*(a+n)<=j/\j<8*(a+n)+8*1
  . rw[if_pos (by omega),if_pos h1]
    congr 1
    omega
  . rw[if_neg h1]
    by_cases h2:8*a<=j/\j<8*a+8*n
    . rw[if_pos (by omega),if_pos h2]
    . rw[if_neg (by omega),if_neg h2]
 unfold put at *;simpa using this
end Mem
def zM(u:Nat):Int:=if u<9223372036854775808 then(u:Int)else(u:Int)-18446744073709551616
def u64(n:Int):Nat:=(n % 18446744073709551616).toNat
theorem Jn(n:Int):u64 n<18446744073709551616:=by unfold u64;omega
theorem N0(n:Int)(h0 : -9223372036854775808<=n)(h1:n<=9223372036854775807):zM (u64 n)=n:=by
 unfold zM u64;split <;> omega
theorem QY(u:Nat)(h:u<18446744073709551616) : -9223372036854775808<=zM u/\zM u<=9223372036854775807:=by
 unfold zM;split <;> omega
theorem tP(u:Nat)(h:u<18446744073709551616):u64 (zM u)=u:=by
 unfold zM u64;split <;> omega
def qH:List UInt8->Nat
 | []=>0
 | b :: l=>b.toNat+256*qH l
def fg:Nat->Nat->List UInt8
 | 0,_=>[]
 | n+1,v=>UInt8.ofNat v :: fg n (v / 256)
theorem gK(n v:Nat):(fg n v).length=n:=by
 induction n generalizing v with
 | zero=>rfl
 | succ n ih=>simp[fg,ih]
theorem QZ(l:List UInt8):qH l<2 ^ (8*l.length):=by
 induction l with
 | nil=>decide
 | cons b l ih =>
  have:=b.toNat_lt;rw[qH,List.length_cons,show 8*(l.length+1)=8*l.length+8 by omega,Nat.pow_add]
  omega
theorem ui(l:List UInt8):fg l.length (qH l)=l:=by
 induction l with
 | nil=>rfl
 | cons b l ih =>
  have:=b.toNat_lt;rw[List.length_cons,fg,qH];congr 1
  . apply UInt8.toNat_inj.1
    rw[UInt8.toNat_ofNat'];omega
  . rw[show(b.toNat+256*qH l) / 256=qH l by omega]
    exact ih
theorem Co(n v:Nat):qH (fg n v)=v % 2 ^ (8*n):=by
 induction n generalizing v with
 | zero=>simp[fg,qH,Nat.mod_one]
 | succ n ih =>
  rw[fg,qH,ih,UInt8.toNat_ofNat',show 8*(n+1)=8+8*n by omega,Nat.pow_add,Nat.mod_mul]
theorem uj(n v i:Nat)(h:i<(fg n v).length):((fg n v)[i]).toNat=(v >>> (8*i)) % 256:=by
 induction n generalizing v i with
 | zero=>simp[fg]at h
 | succ n ih =>
  cases i with
  | zero=>simp[fg]
  | succ i =>
   have hi:i<(fg n (v / 256)).length:=by simp[fg]at h;exact h
   have:(fg (n+1) v)[i+1]=(fg n (v / 256))[i]:=rfl;rw[this,ih _ _ hi,show 8*(i+1)=8+8*i by omega,Nat.shiftRight_add,Nat.shiftRight_eq_div_pow v 8]
namespace Mem
def zero(n:Nat):Mem:=⟨n,0⟩
def has(m:Mem)(a n:Int):Bool:=decide (0<=n) && decide (0<=a) && decide (n<=m.size) && decide (a<=m.size-n)
def cM(m:Mem)(a:Int):Int:=if m.has a 8 then(if a % 8=0 then 0 else -23)else -9
def cell(m:Mem)(a:Int):Int × Int:=if m.cM a=0 then(zM (m.get a.toNat 8),0)else(0,m.cM a)
def setCell(m:Mem)(a n:Int):Mem × Int:=if m.cM a=0 then(m.put a.toNat 8 (u64 n),0)else(m,m.cM a)
def Q0(m:Mem)(a:Int):Int × Int:=if m.has a 1 then((m.byte a.toNat:Int),0)else(0,-9)
def Yo(m:Mem)(a n:Int):Mem × Int:=if m.has a 1 then(m.put a.toNat 1 (u64 n),0)else(m,-9)
def dJ(m:Mem)(a n:Int):List UInt8 × Int:=if m.has a n then(fg n.toNat (m.get a.toNat n.toNat),0)else([],-9)
def cS(m:Mem)(a:Int)(s:List UInt8):Mem × Int:=if m.has a s.length then(m.put a.toNat s.length (qH s),0)else(m,-9)
def kG(size:Int):Int:=if 0<=size/\size<=1048576/\size % 8=0 then 0 else -256
theorem eI(m:Mem)(a n:Int):m.has a n=true ↔ 0<=n/\0<=a/\a+n<=m.size:=by
 unfold has;simp only[Bool.and_eq_true,decide_eq_true_eq]
 omega
theorem dX(m:Mem)(a:Int):m.cM a=0 ↔ 0<=a/\a+8<=m.size/\a % 8=0:=by
 unfold cM;by_cases h:m.has a 8=true
 . rw[if_pos h]
   rw[eI]at h;split <;> omega
 . rw[if_neg h]
   rw[eI]at h;omega
theorem zO(m:Mem)(a:Int):m.cM a=0\/m.cM a = -23\/m.cM a = -9:=by
 unfold cM;split
 . split
   . exact .inl rfl
   . exact .inr (.inl rfl)
 . exact .inr (.inr rfl)
theorem cQ(m:Mem)(a n:Int):(m.setCell a n).1.size=m.size:=by unfold setCell;split <;> rfl
theorem kH(m:Mem)(a n:Int):(m.Yo a n).1.size=m.size:=by unfold Yo;split <;> rfl
theorem eh(m:Mem)(a:Int)(s:List UInt8):(m.cS a s).1.size=m.size:=by unfold cS;split <;> rfl
theorem fh(m:Mem)(a:Int) : -9223372036854775808<=(m.cell a).1/\(m.cell a).1<=9223372036854775807:=by
 unfold cell;split
 . exact QY _ (by have:=m.lf a.toNat 8;simpa using this)
 . simp
end Mem
namespace Src
def blank(c:UInt8):Bool:=decide (c.toNat<=32)
def skip(s:List UInt8)(cM:Nat):Nat:=cM+((s.drop cM).takeWhile blank).length
def dA(s:List UInt8)(cM:Nat):List UInt8 × Nat :=
 let i:=skip s cM
 let w:=(s.drop i).takeWhile fun c=>!blank c
 let j:=i+w.length
 (w,if(s.drop j).head?.any (fun c=>decide (c.toNat≠10))then j+1 else j)
theorem wA{α:Type}(p:α->Bool)(l:List α)(n:Nat)(hn:n<=l.length)(h:∀ k (hk:k<l.length),k<n->p l[k]=true)(he:n=l.length\/∃ hk:n<l.length,p l[n]=false):l.takeWhile p=l.take n:=by
 induction l generalizing n with
 | nil=>simp
 | cons x l ih =>
  cases n with
  | zero =>
   rcases he with he | ⟨_,he⟩
   . simp at he
   . have:p x=false:=he
     rw[List.takeWhile_cons,this];rfl
  | succ n =>
   have hx:p x=true:=h 0 (by simp) (by omega)
   rw[List.takeWhile_cons,if_pos hx,List.take_succ_cons];congr 1
   refine ih n (by simpa using hn) (fun k hk hkn=>h (k+1) (by simpa using hk) (by omega)) ?_
   rcases he with he | ⟨hk,he⟩
   . left;simpa using he
   . right;exact⟨by simpa using hk,he⟩
theorem EC(p:UInt8->Bool)(s:List UInt8)(a n:Nat)(ha:a<=n)(hn:n<=s.length)(h:∀ k (hk:k<s.length),a<=k->k<n->p s[k]=true)(he:n=s.length\/∃ hk:n<s.length,p s[n]=false):(s.drop a).takeWhile p=(s.drop a).take (n-a):=by
 refine wA p _ (n-a) (by rw[List.length_drop];omega) (fun k hk hkn=>?_) ?_
 . rw[List.getElem_drop]
   rw[List.length_drop]at hk;exact h (a+k) (by omega) (by omega) (by omega)
 . rcases he with he | ⟨hk,he⟩
   . left;rw[List.length_drop];omega
   . right
     refine⟨by rw[List.length_drop];omega,?_⟩
     rw[List.getElem_drop];have:a+(n-a)=n:=by omega
     simp only[this]
     exact he
theorem ED(s:List UInt8)(a n:Nat)(ha:a<=n)(hn:n<=s.length)(h:∀ k (hk:k<s.length),a<=k->k<n->blank s[k]=true)(he:n=s.length\/∃ hk:n<s.length,blank s[n]=false):skip s a=n:=by
 unfold skip;rw[EC blank s a n ha hn h he,List.length_take,List.length_drop];omega
theorem EG(s:List UInt8)(a i j:Nat)(hs:skip s a=i)(ha:i<=j)(hn:j<=s.length)(h:∀ k (hk:k<s.length),i<=k->k<j->blank s[k]=false)(he:j=s.length\/∃ hk:j<s.length,blank s[j]=true) :
 dA s a=((s.drop i).take (j-i),if(s.drop j).head?.any (fun c=>decide (c.toNat≠10))then j+1 else j):=by
 have hw:=EC (fun c=>!blank c) s i j ha hn (fun k hk h1 h2=>by simp[h k hk h1 h2]) (by
  rcases he with he | ⟨hk,he⟩
  . exact .inl he
  . exact .inr ⟨hk,by simp[he]⟩)
 unfold dA;simp only
 rw[hs,hw,List.length_take,List.length_drop,show i+min (j-i) (s.length-i)=j by omega]
end Src
structure Sp where
 mem:Mem
 lo:Int
 to:Int
 cu:Int
 deriving DecidableEq
namespace Sp
def Ok(s:Sp):Prop:=0<=s.lo/\s.lo<=s.cu/\s.cu<=s.to/\s.to<=s.mem.size
def kG(m:Mem)(lo to:Int):Int:=if lo<0\/to<lo\/m.size<to then -256 else 0
def gA(s:Sp)(n:Int):Sp × Int:=if n > s.to-s.cu\/n<s.lo-s.cu then(s,-8)else({ s with cu:=s.cu+n },0)
def put(s:Sp)(n:Int)(r:Mem × Int):Sp × Int :=
 if n<=s.to-s.cu then(if r.2≠0 then({ s with mem:=r.1 },r.2)else gA { s with mem:=r.1 } n)else s.gA n
def cN(s:Sp)(n:Int):Sp × Int:=s.put 8 (s.mem.setCell s.cu n)
def char(s:Sp)(n:Int):Sp × Int:=s.put 1 (s.mem.Yo s.cu n)
def jl(s:Sp)(t:List UInt8):Sp × Int:=s.put t.length (s.mem.cS s.cu t)
def fN(s:Sp)(h:Int):Sp × Int:=if h<s.lo\/s.cu<h then(s,-256)else({ s with cu:=h },0)
def fD:Nat->Sp->Sp × Int
 | 0,s=>(s,0)
 | k+1,s=>if s.cu % 8=0 then(s,0)else if(s.char 0).2≠0 then s.char 0 else fD k (s.char 0).1
def align(s:Sp):Sp × Int:=fD 8 s
theorem zP{s:Sp}(h:s.Ok)(n:Int):(s.gA n).1.Ok:=by
 unfold gA;split
 . exact h
 . obtain⟨h1,h2,h3,h4⟩:=h
   refine⟨h1,?_,?_,h4⟩ <;> simp only <;> omega
theorem qd(s:Sp)(n:Int):(s.gA n).1.mem=s.mem:=by unfold gA;split <;> rfl
theorem uk{s:Sp}(h:s.Ok)(n:Int){r:Mem × Int}(hr:r.1.size=s.mem.size):(s.put n r).1.Ok:=by
 have h':Ok { s with mem:=r.1 }:=⟨h.1,h.2.1,h.2.2.1,by show s.to<=r.1.size;rw[hr];exact h.2.2.2⟩
 unfold put;split
 . split
   . exact h'
   . exact zP h' n
 . exact zP h n
theorem gZ(s:Sp)(n:Int){r:Mem × Int}(hr:r.1.size=s.mem.size):(s.put n r).1.mem.size=s.mem.size:=by
 unfold put;split
 . split
   . exact hr
   . rw[qd];exact hr
 . rw[qd]
theorem zQ{s:Sp}(h:s.Ok)(n:Int):(s.cN n).1.Ok:=uk h _ (Mem.cQ _ _ _)
theorem EH{s:Sp}(h:s.Ok)(n:Int):(s.char n).1.Ok:=uk h _ (Mem.kH _ _ _)
theorem gL(s:Sp)(n:Int):(s.cN n).1.mem.size=s.mem.size:=gZ _ _ (Mem.cQ _ _ _)
theorem pq(s:Sp)(n:Int):(s.char n).1.mem.size=s.mem.size:=gZ _ _ (Mem.kH _ _ _)
theorem Cp(s:Sp)(t:List UInt8):(s.jl t).1.mem.size=s.mem.size:=gZ _ _ (Mem.eh _ _ _)
theorem kR(s:Sp)(n:Int):(s.fN n).1.mem=s.mem:=by unfold fN;split <;> rfl
theorem Gi(k:Nat){s:Sp}(h:s.Ok):(fD k s).1.Ok:=by
 induction k generalizing s with
 | zero=>exact h
 | succ k ih =>
  unfold fD;split
  . exact h
  . split
    . exact EH h 0
    . exact ih (EH h 0)
theorem zR{s:Sp}(h:s.Ok):s.align.1.Ok:=Gi 8 h
theorem pt{s:Sp}(n:Int)(h:(s.char n).2=0):(s.char n).1.cu=s.cu+1:=by
 unfold char put at *;split at h
 . rename_i h1
   rw[if_pos h1];split at h
   . rename_i h2;exact absurd h h2
   . rename_i h2
     rw[if_neg h2];unfold gA at *;split at h
     . simp at h
     . rename_i h3;rw[if_neg h3]
 . rename_i h1
   rw[if_neg h1];unfold gA at *;split at h
   . simp at h
   . rename_i h3;rw[if_neg h3]
theorem wB(k:Nat)(s:Sp)(h:(8-s.cu % 8) % 8<=k)(j:Nat)(hj:k<=j):fD j s=fD k s:=by
 induction k generalizing s j with
 | zero =>
  have h0:s.cu % 8=0:=by omega
  cases j with
  | zero=>rfl
  | succ j=>unfold fD;rw[if_pos h0]
 | succ k ih =>
  cases j with
  | zero=>omega
  | succ j =>
   unfold fD;by_cases h0:s.cu % 8=0
   . rw[if_pos h0,if_pos h0]
   . rw[if_neg h0,if_neg h0]
     by_cases he:(s.char 0).2≠0
     . rw[if_pos he,if_pos he]
     . rw[if_neg he,if_neg he]
       have:=pt (s:=s) 0 (by simpa using he)
       exact ih _ (by omega) j (by omega)
theorem um(s:Sp)(h:s.cu % 8≠0)(he:(s.char 0).2=0):s.align=(s.char 0).1.align:=by
 unfold align;rw[show fD 8 s=fD 7 (s.char 0).1 by rw[fD,if_neg h,if_neg (by simpa using he)]]
 have:=pt (s:=s) 0 he;exact(wB 7 _ (by omega) 8 (by omega)).symm
end Sp
structure jz where
 cZ:Int
 xt:Int
 j7:Int
 deriving DecidableEq
namespace dj
def cy(m:Mem)(t:Int):Int :=
 if(m.cell t).2≠0\/(m.cell t).1<1\/1024<(m.cell t).1 then 0
 else if(m.dJ t ((2+(m.cell t).1*3)*8)).2≠0 then 0 else(m.cell t).1
def pos(t i:Int):Int:=t+(2+i*3)*8
def cT(m:Mem)(t i:Int):jz:=⟨(m.cell (pos t i)).1,(m.cell (pos t i+8)).1,(m.cell (pos t i+16)).1⟩
def gB(cZ n:Int):Int:=(cZ % 4294967296*2654435761 % 4294967296) % n
def iu(m:Mem)(t cZ n:Int):Nat->Int->Int × Int
 | 0,_=>(-1,n)
 | k+1,i =>
  if(cT m t ((gB cZ n+i) % n)).cZ=cZ\/(cT m t ((gB cZ n+i) % n)).cZ=0 then((gB cZ n+i) % n,i+1)
  else iu m t cZ n k (i+1)
def ek(m:Mem)(t cZ:Int):Int × Int:=iu m t cZ (cy m t) (cy m t).toNat 0
def get(m:Mem)(t cZ:Int):jz × Int × Bool :=
 if(ek m t cZ).1<0\/cZ<1 then(⟨0,0,0⟩,(ek m t cZ).2,false)
 else if(cT m t (ek m t cZ).1).cZ≠cZ then(⟨0,0,0⟩,(ek m t cZ).2,false)
 else(cT m t (ek m t cZ).1,(ek m t cZ).2,true)
def tH(m:Mem)(t cZ:Int):Bool:=decide (0<=(ek m t cZ).1) && decide (1<=cZ)
def ox(m:Mem)(t i:Int):Mem:=if(cT m t i).cZ=0 then(m.setCell (t+8) ((m.cell (t+8)).1+1)).1 else m
def put(m:Mem)(t:Int)(x:jz):Mem × Int :=
 if x.cZ<1\/cy m t=0 then(m,-256)
 else if(ek m t x.cZ).1<0 then(m,-2051)
 else((((((ox m t (ek m t x.cZ).1).setCell (pos t (ek m t x.cZ).1) x.cZ).1).setCell (pos t (ek m t x.cZ).1+8) x.xt).1.setCell (pos t (ek m t x.cZ).1+16) x.j7).1,0)
def kj(cy:Int):Nat->Int->Sp->Sp × Int
 | 0,_,s=>(s,0)
 | k+1,i,s =>
  if(s.cN (if i=0 then cy else 0)).2≠0 then s.cN (if i=0 then cy else 0)
  else kj cy k (i+1) (s.cN (if i=0 then cy else 0)).1
def new(s:Sp)(cy:Int):Sp × Int × Int :=
 if cy<1\/1024<cy then(s,0,-256)
 else if s.align.2≠0 then((s.align.1.fN s.cu).1,0,s.align.2)
 else if(kj cy (2+cy*3).toNat 0 s.align.1).2≠0 then(((kj cy (2+cy*3).toNat 0 s.align.1).1.fN s.cu).1,0,(kj cy (2+cy*3).toNat 0 s.align.1).2)
 else((kj cy (2+cy*3).toNat 0 s.align.1).1,s.align.1.cu,0)
def copy(s:Sp)(t:Int):Sp × Int × Int :=
 if(new s (cy s.mem t)).2.2≠0 then((new s (cy s.mem t)).1,0,(new s (cy s.mem t)).2.2)
 else({ (new s (cy s.mem t)).1 with mem:=((new s (cy s.mem t)).1.mem.cS (new s (cy s.mem t)).2.1 ((new s (cy s.mem t)).1.mem.dJ t ((2+cy s.mem t*3)*8)).1).1 },
  (new s (cy s.mem t)).2.1,((new s (cy s.mem t)).1.mem.cS (new s (cy s.mem t)).2.1 ((new s (cy s.mem t)).1.mem.dJ t ((2+cy s.mem t*3)*8)).1).2)
theorem iL(m:Mem)(t:Int):0<=cy m t/\cy m t<=1024:=by
 unfold cy;split
 . omega
 . split <;> omega
theorem lg(m:Mem)(t:Int)(h:cy m t≠0):0<=t/\t % 8=0/\t+(2+cy m t*3)*8<=m.size:=by
 unfold cy at *;split at h
 . exact absurd rfl h
 . rename_i h1
   rw[if_neg h1];split at h
   . exact absurd rfl h
   . rename_i h2
     rw[if_neg h2];have c:(m.cell t).2=0:=by omega
     unfold Mem.cell at c;split at c
     . rename_i h3
       rw[Mem.dX]at h3;unfold Mem.dJ at h2;split at h2
       . rename_i h4
         rw[Mem.eI]at h4;omega
       . simp at h2
     . rename_i h3
       exact absurd c h3
theorem N4(cZ n:Int)(h:0<n):0<=gB cZ n/\gB cZ n<n:=⟨Int.emod_nonneg _ (by omega),Int.emod_lt_of_pos _ h⟩
theorem Gj(m:Mem)(t cZ n:Int)(hn:0<n)(k:Nat)(i:Int):(iu m t cZ n k i).1<n /\ -1<=(iu m t cZ n k i).1:=by
 induction k generalizing i with
 | zero=>unfold iu;simp only;omega
 | succ k ih =>
  unfold iu;split
  . simp only
    have h1:=Int.emod_nonneg (gB cZ n+i) (show n≠0 by omega)
    have h2:=Int.emod_lt_of_pos (gB cZ n+i) hn;omega
  . exact ih _
theorem mF(m:Mem)(t cZ:Int) : -1<=(ek m t cZ).1/\((ek m t cZ).1<cy m t\/(ek m t cZ).1 = -1):=by
 unfold ek;by_cases h:cy m t=0
 . rw[h]
   simp[iu]
 . have:=iL m t
   have:=Gj m t cZ (cy m t) (by omega) (cy m t).toNat 0
   omega
end dj
structure gJ where
 cM:Int
 cE:Int
 size:Int
 table:Int
 iB:Int
 deriving DecidableEq
namespace Class
def j9:Int:=357694784579
def root(s:Sp):Sp × Int × Int :=
 if s.align.2≠0 then(s.align.1,0,s.align.2)
 else if(s.align.1.cN 0).2≠0 then((s.align.1.cN 0).1,0,(s.align.1.cN 0).2)
 else((s.align.1.cN 0).1,s.align.1.cu,0)
def cT(m:Mem)(a:Int):gJ × Bool :=
 if(m.cell a).2≠0\/(m.cell (a+8)).2≠0\/(m.cell (a+16)).2≠0\/(m.cell (a+24)).2≠0\/(m.cell (a+32)).2≠0 then(⟨0,0,0,0,0⟩,false)
 else(⟨a,(m.cell (a+8)).1,(m.cell (a+16)).1,(m.cell (a+24)).1,(m.cell (a+32)).1⟩,decide ((m.cell a).1=j9))
def fV(m:Mem):Nat->Int->Int->List gJ
 | 0,_,_=>[]
 | k+1,a,ea=>if 0<a/\a<ea then(if(cT m a).2 then(cT m a).1 :: fV m k (cT m a).1.iB a else [])else []
def dH(m:Mem)(a ea:Int):List gJ:=fV m ea.toNat a ea
def all(m:Mem)(root:Int):List gJ:=if(m.cell root).2=0 then(dH m (m.cell root).1 m.size).reverse else []
def is(m:Mem)(root a:Int):Bool:=(all m root).any fun c=>decide (c.cM=a)
def dT(s:Sp)(root cE cy:Int):Sp × Int × Int :=
 if(s.mem.cell root).2≠0 then(s,0,(s.mem.cell root).2)
 else if cE=0 then rest (dj.new s cy) 8
 else if is s.mem root cE=false then(s,0,-2048)
 else rest (dj.copy s (cT s.mem cE).1.table) (cT s.mem cE).1.size
where
 rest (t:Sp × Int × Int) (size:Int):Sp × Int × Int :=
  if t.2.2≠0 then(t.1,0,t.2.2)
  else cells t.1 [j9,cE,size,t.2.1,(s.mem.cell root).1] t.1.cu
 cells (x:Sp) (l:List Int) (a:Int):Sp × Int × Int :=
  match l with
  | []=>(x,a,0)
  | n :: l=>if(x.cN n).2≠0 then((x.cN n).1,0,(x.cN n).2)else cells (x.cN n).1 l a
def new(s:Sp)(root cE cy:Int):Sp × Int × Int :=
 if(dT s root cE cy).2.2≠0 then(((dT s root cE cy).1.fN s.cu).1,0,(dT s root cE cy).2.2)
 else({ (dT s root cE cy).1 with mem:=((dT s root cE cy).1.mem.setCell root (dT s root cE cy).2.1).1 },(dT s root cE cy).2.1,((dT s root cE cy).1.mem.setCell root (dT s root cE cy).2.1).2)
def grow(m:Mem)(a n:Int):Mem × Int × Int :=
 if(cT m a).2=false then(m,0,-2048)
 else if n<0\/1048576<n\/(cT m a).1.size<0\/1048576<(cT m a).1.size then(m,0,-256)
 else((m.setCell (a+16) (((cT m a).1.size+n+7) / 8*8)).1,(cT m a).1.size,0)
def lookup(m:Mem)(a cZ:Int):jz × Int × Bool :=
 if(cT m a).2=false then(⟨0,0,0⟩,0,false)else dj.get m (cT m a).1.table cZ
def km(m:Mem)(a cZ:Int):List gJ->List Int->List gJ
 | [],_=>[]
 | c :: l,seen =>
  if c.cM=a\/(c.cE ∈ seen/\¬ ((dj.get m c.table cZ).2.2=true/\(dj.get m c.table cZ).1.j7=c.cM))then c :: km m a cZ l (c.cM :: seen)
  else km m a cZ l seen
def lh(m:Mem)(root a cZ:Int):List gJ:=km m a cZ (all m root) []
def qf(m:Mem)(x:jz):List gJ->Mem × Int
 | []=>(m,0)
 | c :: l=>if(dj.put m c.table x).2≠0 then dj.put m c.table x else qf (dj.put m c.table x).1 x l
def set(m:Mem)(root a cZ xt:Int):Mem × Int :=
 if lh m root a cZ=[] then(m,-2048)
 else if cZ<1 then(m,-256)
 else if(lh m root a cZ).any (fun c=>!dj.tH m c.table cZ)then(m,-2051)
 else qf m ⟨cZ,xt,a⟩ (lh m root a cZ)
theorem nD(m:Mem)(k:Nat)(a ea:Int)(h:ea.toNat<=k)(j:Nat)(hj:ea.toNat<=j):fV m k a ea=fV m j a ea:=by
 induction k generalizing a ea j with
 | zero =>
  cases j with
  | zero=>rfl
  | succ j =>
   rw[fV,fV,if_neg (by omega)]
 | succ k ih =>
  cases j with
  | zero=>rw[fV,fV,if_neg (by omega)]
  | succ j =>
   rw[fV,fV];by_cases h1:0<a/\a<ea
   . rw[if_pos h1,if_pos h1]
     by_cases h2:(cT m a).2=true
     . rw[if_pos h2,if_pos h2,ih _ a (by omega) j (by omega)]
     . rw[if_neg h2,if_neg h2]
   . rw[if_neg h1,if_neg h1]
theorem kT(m:Mem)(a ea:Int)(h:0<a/\a<ea)(h2:(cT m a).2=true):dH m a ea=(cT m a).1 :: dH m (cT m a).1.iB a:=by
 unfold dH;obtain⟨k,hk⟩:∃ k,ea.toNat=k+1:=⟨ea.toNat-1,by omega⟩
 rw[hk,fV,if_pos h,if_pos h2,nD m k _ a (by omega) a.toNat (Nat.le_refl _)]
theorem uq(m:Mem)(a ea:Int)(h:¬ (0<a/\a<ea)):dH m a ea=[]:=by
 unfold dH
 cases ea.toNat with
 | zero=>rfl
 | succ k=>rw[fV,if_neg h]
theorem Jo(m:Mem)(a ea:Int)(h2:(cT m a).2=false):dH m a ea=[]:=by
 unfold dH
 cases ea.toNat with
 | zero=>rfl
 | succ k =>
  rw[fV];split
  . rw[h2];rfl
  . rfl
theorem zS(m:Mem)(a ea:Int):(dH m a ea).length<=ea.toNat:=by
 unfold dH;generalize ea.toNat=k
 induction k generalizing a ea with
 | zero=>simp[fV]
 | succ k ih =>
  rw[fV];split
  . split
    . have:=ih (cT m a).1.iB a;simp;omega
    . simp
  . simp
theorem qM(m:Mem)(root:Int):(all m root).length<=m.size:=by
 unfold all;split
 . have:=zS m (m.cell root).1 m.size
   simp only[List.length_reverse]
   omega
 . simp
end Class
def mw(c:UInt8):UInt8:=if 65<=c.toNat/\c.toNat<=90 then UInt8.ofNat (c.toNat+32)else c
def cG(l:List UInt8):List UInt8:=l.map mw
structure Wd where
 cM:Int
 xt:Int
 cP:Int
 name:List UInt8
 deriving DecidableEq
def Wd.none:Wd:=⟨0,0,0,[]⟩
namespace Sp
def mG(x:Sp)(a n:Int):Sp × Int:=({ x with mem:=(x.mem.setCell a n).1 },(x.mem.setCell a n).2)
def andThen(r:Sp × Int)(f:Sp->Sp × Int):Sp × Int:=if r.2≠0 then r else f r.1
def cF(x:Sp):Sp × Int × Int:=if x.align.2≠0 then(x.align.1,0,x.align.2)else if(x.align.1.cN 0).2≠0 then((x.align.1.cN 0).1,0,(x.align.1.cN 0).2)else((x.align.1.cN 0).1,x.align.1.cu,0)
def wY(x:Sp)(cF:Int):Sp × Int:=if(x.mem.cell cF).2=0 then x.align else(x,(x.mem.cell cF).2)
def Jp(x:Sp)(cF:Int):Sp × Int:=andThen (wY x cF) fun y=>y.cN (x.mem.cell cF).1
def Jq(x:Sp)(cF:Int)(name:List UInt8)(cP:Int):Sp × Int:=andThen (Jp x cF) fun y=>y.cN (name.length+cP*256)
def Jr(x:Sp)(cF:Int)(name:List UInt8)(cP:Int):Sp × Int:=andThen (Jq x cF name cP) fun y=>y.jl (cG name)
def Jg(x:Sp)(cF:Int)(name:List UInt8)(cP:Int):Sp × Int:=andThen (Jr x cF name cP) fun y=>y.align
def Js(x:Sp)(cF:Int)(name:List UInt8)(cP code:Int):Sp × Int:=andThen (Jg x cF name cP) fun y=>y.cN code
def EI(x:Sp)(cF:Int)(name:List UInt8)(cP code:Int):Sp × Int:=andThen (Js x cF name cP code) fun y=>y.mG cF (wY x cF).1.cu
def cO(x:Sp)(cF:Int)(name:List UInt8)(cP code:Int):Sp × Wd × Int :=
 if name=[]\/31<name.length then(x,Wd.none,-16)else
 if(EI x cF name cP code).2≠0 then(((EI x cF name cP code).1.fN x.cu).1,Wd.none,(EI x cF name cP code).2)
 else((EI x cF name cP code).1,⟨(wY x cF).1.cu,(Jg x cF name cP).1.cu,cP,cG name⟩,0)
end Sp
namespace Mem
def dN(n:Int):Int:=(n+7) / 8*8
def Ym(m:Mem)(a:Int):Option (Wd × Int) :=
 let info:=(m.cell (a+8)).1
 if(m.cell a).2≠0\/(m.cell (a+8)).2≠0\/31<info % 256\/info<0 then none
 else if(m.cell (a+16+dN (info % 256))).2≠0\/(m.dJ (a+16) (info % 256)).2≠0 then none
 else some (⟨a,a+16+dN (info % 256),info / 256,(m.dJ (a+16) (info % 256)).1⟩,(m.cell a).1)
def ic(m:Mem):Nat->Int->Int->List Wd
 | 0,_,_=>[]
 | k+1,ea,a=>if 0<a/\a<ea then(match m.Ym a with | some (w,l)=>w :: ic m k a l | none=>[])else []
def fR(m:Mem)(cF:Int):List Wd:=if(m.cell cF).2≠0 then [] else ic m m.size m.size (m.cell cF).1
def dv(l:List Wd)(low:List UInt8):Option Wd:=l.find? fun w=>decide (w.name=low) && decide (w.cP % 4<2)
def find(m:Mem)(name:List UInt8):List Int->Option Wd
 | []=>none
 | a :: r=>match dv (m.fR a) (cG name)with
  | some w=>some w
  | none=>find m name r
end Mem
namespace Mem
theorem wC(m:Mem)(k:Nat):∀ (ea a:Int) (j:Nat),ea<=k->k<=j->ic m j ea a=ic m k ea a:=by
 induction k with
 | zero =>
  intro ea a j h _
  cases j with
  | zero=>rfl
  | succ j=>rw[ic,ic,if_neg (by omega)]
 | succ k ih =>
  intro ea a j h hj
  cases j with
  | zero=>omega
  | succ j =>
   rw[ic,ic];by_cases hc:0<a/\a<ea
   . rw[if_pos hc,if_pos hc]
     cases m.Ym a with
     | none=>rfl
     | some p=>simp only;rw[ih a p.2 j (by omega) (by omega)]
   . rw[if_neg hc,if_neg hc]
def gT(m:Mem)(ea a:Int):List Wd:=ic m ea.toNat ea a
theorem ur(m:Mem)(cF:Int):m.fR cF=if(m.cell cF).2≠0 then [] else gT m m.size (m.cell cF).1:=by
 unfold fR gT;rw[Int.toNat_natCast]
theorem qg(m:Mem)(ea a:Int)(h:¬ (0<a/\a<ea)):gT m ea a=[]:=by
 unfold gT
 cases ea.toNat with
 | zero=>rfl
 | succ k=>rw[ic,if_neg h]
theorem zT(m:Mem)(ea a:Int)(h:m.Ym a=none):gT m ea a=[]:=by
 unfold gT
 cases ea.toNat with
 | zero=>rfl
 | succ k =>
  rw[ic];split
  . rw[h]
  . rfl
theorem sQ(m:Mem)(ea a:Int)(h:0<a/\a<ea){d:Wd}{l:Int}(e:m.Ym a=some (d,l)):gT m ea a=d :: gT m a l:=by
 unfold gT;obtain⟨k,hk⟩:∃ k,ea.toNat=k+1:=⟨ea.toNat-1,by omega⟩
 rw[hk,ic,if_pos h,e];simp only
 rw[wC m a.toNat a l k (by omega) (by omega)]
theorem sR{m:Mem}{a:Int}{d:Wd}{l:Int}(e:m.Ym a=some (d,l)):l=(m.cell a).1:=by
 unfold Ym at e;simp only at e
 split at e
 . cases e
 . split at e
   . cases e
   . injection e with e;injection e with _ e;exact e.symm
theorem uu(m:Mem)(k:Nat):∀ ea a,(ic m k ea a).length<=k:=by
 induction k with
 | zero=>intro _ _;exact Nat.le_refl _
 | succ k ih =>
  intro ea a;rw[ic];split
  . cases m.Ym a with
    | none=>simp
    | some p=>simp only[List.length_cons];have:=ih a p.2;omega
  . simp
theorem rW(m:Mem)(cF:Int):(m.fR cF).length<=m.size:=by
 unfold fR;split
 . simp
 . exact uu _ _ _ _
theorem Cq(m:Mem)(ea a:Int):(gT m ea a).length<=ea.toNat:=uu _ _ _ _
end Mem
namespace Sp
theorem andThen_ok{r:Sp × Int}(f:Sp->Sp × Int)(h:r.2=0):andThen r f=f r.1:=by unfold andThen;rw[if_neg (by simpa using h)]
theorem jb{r:Sp × Int}(f:Sp->Sp × Int)(h:r.2≠0):andThen r f=r:=by unfold andThen;rw[if_pos h]
theorem qN(x:Sp)(l:Int)(name:List UInt8)(fl cd:Int)(hn:¬ (name=[]\/31<name.length)):∃ q0 q1 q2 q3 q4 q5 q6:Sp × Int,
 (q0=if(x.mem.cell l).2=0 then x.align else(x,(x.mem.cell l).2)) /\
 (q0.2=0->q1=q0.1.cN (x.mem.cell l).1)/\(q1.2=0->q2=q1.1.cN (name.length+fl*256))/\(q2.2=0->q3=q2.1.jl (cG name))/\(q3.2=0->q4=q3.1.align)/\(q4.2=0->q5=q4.1.cN cd)/\(q5.2=0->q6=q5.1.mG l q0.1.cu) /\
 (q0.2≠0->x.cO l name fl cd=((q0.1.fN x.cu).1,Wd.none,q0.2))/\(q1.2≠0->x.cO l name fl cd=((q1.1.fN x.cu).1,Wd.none,q1.2))/\(q2.2≠0->x.cO l name fl cd=((q2.1.fN x.cu).1,Wd.none,q2.2)) /\
 (q3.2≠0->x.cO l name fl cd=((q3.1.fN x.cu).1,Wd.none,q3.2))/\(q4.2≠0->x.cO l name fl cd=((q4.1.fN x.cu).1,Wd.none,q4.2))/\(q5.2≠0->x.cO l name fl cd=((q5.1.fN x.cu).1,Wd.none,q5.2)) /\
 (q6.2≠0->x.cO l name fl cd=((q6.1.fN x.cu).1,Wd.none,q6.2))/\(q6.2=0->x.cO l name fl cd=(q6.1,⟨q0.1.cu,q4.1.cu,fl,cG name⟩,0)):=by
 have h6:(EI x l name fl cd).2≠0->x.cO l name fl cd=(((EI x l name fl cd).1.fN x.cu).1,Wd.none,(EI x l name fl cd).2):=fun h=>by unfold cO;rw[if_neg hn,if_pos h]
 have b5:(Js x l name fl cd).2≠0->EI x l name fl cd=Js x l name fl cd:=fun h=>jb _ h
 have b4:(Jg x l name fl).2≠0->Js x l name fl cd=Jg x l name fl:=fun h=>jb _ h
 have b3:(Jr x l name fl).2≠0->Jg x l name fl=Jr x l name fl:=fun h=>jb _ h
 have b2:(Jq x l name fl).2≠0->Jr x l name fl=Jq x l name fl:=fun h=>jb _ h
 have b1:(Jp x l).2≠0->Jq x l name fl=Jp x l:=fun h=>jb _ h
 have b0:(wY x l).2≠0->Jp x l=wY x l:=fun h=>jb _ h
 have g5:(Js x l name fl cd).2≠0->x.cO l name fl cd=(((Js x l name fl cd).1.fN x.cu).1,Wd.none,(Js x l name fl cd).2):=fun h=>by rw[h6 (by rw[b5 h];exact h),b5 h]
 have g4:(Jg x l name fl).2≠0->x.cO l name fl cd=(((Jg x l name fl).1.fN x.cu).1,Wd.none,(Jg x l name fl).2):=fun h=>by rw[g5 (by rw[b4 h];exact h),b4 h]
 have g3:(Jr x l name fl).2≠0->x.cO l name fl cd=(((Jr x l name fl).1.fN x.cu).1,Wd.none,(Jr x l name fl).2):=fun h=>by rw[g4 (by rw[b3 h];exact h),b3 h]
 have g2:(Jq x l name fl).2≠0->x.cO l name fl cd=(((Jq x l name fl).1.fN x.cu).1,Wd.none,(Jq x l name fl).2):=fun h=>by rw[g3 (by rw[b2 h];exact h),b2 h]
 have g1:(Jp x l).2≠0->x.cO l name fl cd=(((Jp x l).1.fN x.cu).1,Wd.none,(Jp x l).2):=fun h=>by rw[g2 (by rw[b1 h];exact h),b1 h]
 have g0:(wY x l).2≠0->x.cO l name fl cd=(((wY x l).1.fN x.cu).1,Wd.none,(wY x l).2):=fun h=>by rw[g1 (by rw[b0 h];exact h),b0 h]
 refine⟨wY x l,Jp x l,Jq x l name fl,Jr x l name fl,Jg x l name fl,Js x l name fl cd,EI x l name fl cd,rfl,fun h=>andThen_ok _ h,fun h=>andThen_ok _ h,fun h=>andThen_ok _ h,fun h=>andThen_ok _ h,fun h=>andThen_ok _ h,fun h=>andThen_ok _ h,g0,g1,g2,g3,g4,g5,h6,fun h=>?_⟩
 unfold cO;rw[if_neg hn,if_neg (by simpa using h)]
end Sp
namespace dE
def right(b:Int):Bool:=decide (2<=b) && decide (b<=36)
def oC(d:Nat):UInt8:=UInt8.ofNat (if d<10 then 48+d else 55+d)
theorem Q7(d:Nat)(h:d<36):∀ q,(⟨#[48,49,50,51,52,53,54,55,56,57,65,66,67,68,69,70,71,72,73,74,75,76,77,78,79,80,81,82,83,84,85,86,87,88,89,90]⟩:ByteArray)[d]'q=oC d:=by
 have:∀ i:Fin 36,(#[48,49,50,51,52,53,54,55,56,57,65,66,67,68,69,70,71,72,73,74,75,76,77,78,79,80,81,82,83,84,85,86,87,88,89,90]:Array UInt8)[i.1]'i.2=oC i.1:=by decide +kernel
 exact fun _=>this ⟨d,h⟩
def eo(b:Nat):Nat->Nat->List UInt8
 | 0,_=>[]
 | k+1,n=>oC (n % b) :: (if n / b=0 then [] else eo b k (n / b))
def fq(n b:Int):List UInt8:=if right b then(eo b.toNat 64 n.toNat).reverse else []
def gC(n b:Int):List UInt8:=if n<0/\right b=true then 45 :: fq (-n) b else fq (n % 18446744073709551616) b
end dE
structure dK where
 ew:Int
 gm:Int
 depth:Int
 dL:Int
 under:Int
 deriving DecidableEq
namespace dK
def Ok(s:dK):Prop:=0<=s.ew/\s.ew<=4194304/\0<=s.depth/\s.depth<=s.gm/\s.gm<=1048576/\s.under≠0/\s.dL≠0
def ft(s:dK)(i:Int):Int:=s.ew+(s.depth-1-i)*8
def ij(m:Mem)(s:dK):List Int->Mem × dK
 | []=>(m,s)
 | n :: l=>ij (m.setCell (ft { s with depth:=s.depth+1 } 0) n).1 { s with depth:=s.depth+1 } l
def push(m:Mem)(s:dK)(l:List Int):Mem × dK × Int :=
 if s.gm-s.depth<l.length then(m,s,s.dL)else((ij m s l).1,(ij m s l).2,0)
def cM(m:Mem)(s:dK)(i:Int):Int × Int:=if i<0 then(0,-256)else if s.depth<=i then(0,s.under)else m.cell (s.ft i)
def qI(m:Mem)(s:dK):dK × Int × Int:=(if(cM m s 0).2=0 then { s with depth:=s.depth-1 } else s,cM m s 0)
def drop(s:dK)(n:Int):dK × Int:=if n<0 then(s,-256)else if s.gm<n then(s,s.dL)else({ s with depth:=n },0)
def all(m:Mem)(s:dK):List Int:=(List.range s.depth.toNat).map fun (i:Nat)=>(cM m s (s.depth-1-i)).1
theorem lW(m:Mem)(s:dK)(l:List Int):(ij m s l).2={ s with depth:=s.depth+l.length }:=by
 induction l generalizing m s with
 | nil=>simp[ij]
 | cons n l ih =>
  rw[ij,ih];simp only[List.length_cons]
  congr 1
  omega
theorem Cr(m:Mem)(s:dK)(l:List Int):(ij m s l).1.size=m.size:=by
 induction l generalizing m s with
 | nil=>rfl
 | cons n l ih=>rw[ij,ih,Mem.cQ]
theorem Cs(m:Mem)(s:dK)(l:List Int)(n:Int):ij m s (l++[n]) =
 (((ij m s l).1.setCell (ft { (ij m s l).2 with depth:=(ij m s l).2.depth+1 } 0) n).1,{ (ij m s l).2 with depth:=(ij m s l).2.depth+1 }):=by
 induction l generalizing m s with
 | nil=>rfl
 | cons a l ih=>rw[List.cons_append,ij,ih,ij]
end dK
namespace Iface
def cells:List Int->Sp × Int->Sp × Int
 | [],r=>r
 | n :: l,r=>cells l (if r.2=0 then r.1.cN n else r)
def N6(x:Sp)(l:List Int):Sp × Int:=cells ((l.length:Int) :: l) x.align
def new(x:Sp)(l:List Int):Sp × Int × Int :=
 if 1024<l.length then(x,0,-256)
 else if(N6 x l).2≠0 then(((N6 x l).1.fN x.cu).1,0,(N6 x l).2)
 else((N6 x l).1,x.align.1.cu,0)
def QD(m:Mem)(a:Int):Nat->Int->Option (List Int)
 | 0,_=>some []
 | k+1,i=>if(m.cell (a+(i+1)*8)).2≠0 then none else(QD m a k (i+1)).map ((m.cell (a+(i+1)*8)).1 :: ·)
def eb(m:Mem)(a:Int):Option (List Int) :=
 if(m.cell a).2≠0\/(m.cell a).1<0\/1024<(m.cell a).1 then none
 else QD m a (m.cell a).1.toNat 0
def zU(m:Mem)(c:Int):List Int->Int × Int
 | []=>(0,0)
 | s :: l=>if(Class.lookup m c s).2.2 then zU m c l else(s,-2050)
def EJ(m:Mem)(a c:Int):Int × Int :=
 match eb m a with
 | none=>(0,-256)
 | some l=>if(Class.cT m c).2=false then(0,-2048)else zU m c l
end Iface
structure nr where
 cM:Int
 size:Int
 used:Bool
 deriving DecidableEq
namespace dP
def put(m:Mem)(b:nr):Mem × Int:=m.setCell b.cM (if b.used then b.size+1 else b.size)
def dF(a n:Int):nr:=⟨a,n-n % 2,decide (n % 2=1)⟩
def fL(m:Mem)(to:Int):Nat->Int->Option (List nr)
 | 0,_=>some []
 | k+1,a =>
  if a<to then
   (if(m.cell a).2≠0\/(dF a (m.cell a).1).size<16\/(dF a (m.cell a).1).size % 8≠0\/to-a<(dF a (m.cell a).1).size then none
    else(fL m to k (a+(dF a (m.cell a).1).size)).map (dF a (m.cell a).1 :: ·))
  else some []
def blocks(m:Mem)(lo to:Int):Option (List nr):=fL m to (to-lo).toNat lo
def rX(n:Int):Int:=if 16<(n+15) / 8*8 then(n+15) / 8*8 else 16
def pick(size:Int):List nr->Option nr
 | []=>none
 | b :: l=>if b.used=true\/b.size<size then pick size l else some b
def Gm(m:Mem)(b:nr)(size:Int):Mem × Int × Int :=
 if 16<=b.size-size then((put (put m ⟨b.cM+size,b.size-size,false⟩).1 ⟨b.cM,size,true⟩).1,b.cM+8,(put (put m ⟨b.cM+size,b.size-size,false⟩).1 ⟨b.cM,size,true⟩).2)
 else((put m ⟨b.cM,b.size,true⟩).1,b.cM+8,(put m ⟨b.cM,b.size,true⟩).2)
def alloc(m:Mem)(lo to n:Int):Mem × Int × Int :=
 if n<0\/1048576<n then(m,0,-59)
 else match blocks m lo to with
  | none=>(m,0,-2052)
  | some l=>match pick (rX n) l with
   | none=>(m,0,-59)
   | some b=>Gm m b (rX n)
def QE(a:Int):Nat->List nr->Int
 | _,[] => -1
 | i,b :: l=>if b.used=true/\b.cM+8=a then(i:Int)else QE a (i+1) l
def find(l:List nr)(a:Int):Int:=QE a 0 l
def UI(l:List nr)(i:Nat):nr :=
 let b:=l.getD i ⟨0,0,false⟩
 let n:=l.getD (i+1) ⟨0,0,true⟩
 let p:=l.getD (i-1) ⟨0,0,true⟩
 let s:=if i+1<l.length/\n.used=false then b.size+n.size else b.size
 if 0<i/\p.used=false then⟨p.cM,s+p.size,false⟩else⟨b.cM,s,false⟩
def er(m:Mem)(lo to a:Int):Mem × Int :=
 match blocks m lo to with
 | none=>(m,-2052)
 | some l=>if find l a<0 then(m,-60)else put m (UI l (find l a).toNat)
end dP
namespace Obj
def size(m:Mem)(c:Int):Int × Int :=
 if(Class.cT m c).2=false then(0,-2048)
 else if(Class.cT m c).1.size<8\/1048576<(Class.cT m c).1.size then(0,-256)
 else((Class.cT m c).1.size,0)
def make(m:Mem)(a c:Int):Mem × Int :=
 if(size m c).2≠0 then(m,(size m c).2)
 else if(m.cell a).2≠0 then(m,(m.cell a).2)
 else if(m.cS a (List.replicate (size m c).1.toNat 0)).2≠0 then m.cS a (List.replicate (size m c).1.toNat 0)
 else(m.cS a (List.replicate (size m c).1.toNat 0)).1.setCell a c
def heap(m:Mem)(lo to c:Int):Mem × Int × Int :=
 if(size m c).2≠0 then(m,0,(size m c).2)
 else if(dP.alloc m lo to (size m c).1).2.2≠0 then((dP.alloc m lo to (size m c).1).1,0,(dP.alloc m lo to (size m c).1).2.2)
 else((make (dP.alloc m lo to (size m c).1).1 (dP.alloc m lo to (size m c).1).2.1 c).1,(dP.alloc m lo to (size m c).1).2.1,(make (dP.alloc m lo to (size m c).1).1 (dP.alloc m lo to (size m c).1).2.1 c).2)
def jC(x:Sp)(n:Int):Sp × Int:=if x.align.2≠0 then x.align else x.align.1.gA n
def dV(x:Sp)(c:Int):Sp × Int × Int :=
 if(size x.mem c).2≠0 then(x,0,(size x.mem c).2)
 else if(jC x (size x.mem c).1).2≠0 then(((jC x (size x.mem c).1).1.fN x.cu).1,0,(jC x (size x.mem c).1).2)
 else({ (jC x (size x.mem c).1).1 with mem:=(make (jC x (size x.mem c).1).1.mem x.align.1.cu c).1 },x.align.1.cu,(make (jC x (size x.mem c).1).1.mem x.align.1.cu c).2)
def j7(m:Mem)(root a:Int):Int × Int :=
 if(m.cell a).2≠0\/Class.is m root (m.cell a).1=false then(0,-2048)else((m.cell a).1,0)
def send(m:Mem)(root a cZ:Int):Int × Int × Int :=
 if(j7 m root a).2≠0 then(0,0,(j7 m root a).2)
 else if(Class.lookup m (j7 m root a).1 cZ).2.2=false then(0,(Class.lookup m (j7 m root a).1 cZ).2.1,-2049)
 else((Class.lookup m (j7 m root a).1 cZ).1.xt,(Class.lookup m (j7 m root a).1 cZ).2.1,0)
end Obj
structure dr where
 cE:Int
 size:Int
 cy:Int
 own:List (Int × Int)
 deriving DecidableEq
namespace Ref
def own:List (Int × Int)->Int->Option Int
 | [],_=>none
 | p :: l,cZ=>if p.1=cZ then some p.2 else own l cZ
def get(L:List dr)(c:Int):dr:=L.getD c.toNat ⟨-1,0,0,[]⟩
def Ok(L:List dr):Prop:=∀ i (h:i<L.length),-1<=L[i].cE/\L[i].cE<i
def fV(L:List dr)(cZ:Int):Nat->Int->Option (Int × Int)
 | 0,_=>none
 | k+1,c=>if c<0 then none else
  match own (get L c).own cZ with
  | some xt=>some (xt,c)
  | none=>fV L cZ k (get L c).cE
def dH(L:List dr)(c cZ:Int):Option (Int × Int):=fV L cZ (c+1).toNat c
def oD(L:List dr)(of cZ:Int):Nat->Int->Bool
 | 0,c=>decide (c=of)
 | k+1,c=>if c<0\/c=of then decide (c=of)else
  match own (get L c).own cZ with
  | some _=>false
  | none=>oD L of cZ k (get L c).cE
def jA(L:List dr)(c of cZ:Int):Bool:=oD L of cZ (c+1).toNat c
def jH:List Int->List (Int × Int)->List Int
 | all,[]=>all
 | all,p :: l=>jH (if p.1 ∈ all then all else all++[p.1]) l
def oE(L:List dr):Nat->Int->List Int->List Int
 | 0,_,all=>all
 | k+1,c,all=>if c<0 then all else oE L k (get L c).cE (jH all (get L c).own)
def seen(L:List dr)(c:Int):Nat:=(oE L (c+1).toNat c []).length
def oF(L:List dr)(c cZ:Int)(i:Nat):Bool:=jA L i c cZ && (dH L i cZ).isNone && decide ((get L i).cy<=seen L i)
def put(L:List dr)(c:Nat)(cZ xt:Int):List dr :=
 L.set c { get L c with own:=(get L c).own.filter (fun p=>p.1≠cZ)++[(cZ,xt)] }
def set(L:List dr)(c:Nat)(cZ xt:Int):List dr × Int :=
 if cZ<1 then(L,-256)
 else if(List.range L.length).any (oF L c cZ)then(L,-2051)
 else(put L c cZ xt,0)
def new(L:List dr)(cE cy:Int):List dr :=
 L++[if 0<=cE then⟨cE,(get L cE).size,(get L cE).cy,[]⟩else⟨cE,8,cy,[]⟩]
theorem uv(L:List dr)(cZ:Int)(k:Nat)(c:Int):fV L cZ (k+1) c=if c<0 then none else
 match own (get L c).own cZ with
 | some xt=>some (xt,c)
 | none=>fV L cZ k (get L c).cE:=rfl
theorem uw(L:List dr)(o cZ:Int)(k:Nat)(c:Int):oD L o cZ (k+1) c=if c<0\/c=o then decide (c=o)else
 match own (get L c).own cZ with
 | some _=>false
 | none=>oD L o cZ k (get L c).cE:=rfl
theorem ux(L:List dr)(k:Nat)(c:Int)(all:List Int):oE L (k+1) c all=if c<0 then all else oE L k (get L c).cE (jH all (get L c).own):=rfl
theorem Ct(L:List dr)(h:Ok L)(cZ:Int)(k:Nat)(c:Int)(hk:c<k)(hc:c<L.length):fV L cZ (k+1) c=fV L cZ k c:=by
 induction k generalizing c with
 | zero=>rw[fV,fV,if_pos (by omega)]
 | succ k ih =>
  rw[uv L cZ (k+1),uv L cZ k c];by_cases h0:c<0
  . rw[if_pos h0,if_pos h0]
  . rw[if_neg h0,if_neg h0]
    cases own (get L c).own cZ with
    | some x=>rfl
    | none =>
     have hp:=h c.toNat (by omega)
     have e:(get L c)=L[c.toNat]'(by omega):=by unfold get;rw[List.getD_eq_getElem?_getD,List.getElem?_eq_getElem (by omega)];rfl
     rw[<- e]at hp;exact ih _ (by omega) (by omega)
theorem nD(L:List dr)(h:Ok L)(cZ:Int)(k:Nat)(c:Int)(hk:c<k)(hc:c<L.length):fV L cZ k c=dH L c cZ:=by
 unfold dH;obtain⟨d,hd⟩:∃ d,k=(c+1).toNat+d:=⟨k-(c+1).toNat,by omega⟩
 subst hd;clear hk
 induction d with
 | zero=>rfl
 | succ d ih=>rw[<- Nat.add_assoc,Ct L h cZ _ c (by omega) hc,ih]
theorem gD(L:List dr)(c cZ:Int)(h:c<0):dH L c cZ=none:=by
 unfold dH;rw[show(c+1).toNat=0 by omega]
 rfl
theorem get_at(L:List dr)(c:Nat)(h:c<L.length):get L c=L[c]:=by
 unfold get;rw[List.getD_eq_getElem?_getD,show(c:Int).toNat=c by omega,List.getElem?_eq_getElem h]
 rfl
theorem kT(L:List dr)(h:Ok L)(c:Nat)(cZ:Int)(hc:c<L.length):dH L c cZ=match own L[c].own cZ with
 | some xt=>some (xt,(c:Int))
 | none=>dH L L[c].cE cZ:=by
 have hp:=h c hc
 conv=>lhs;unfold dH
 rw[show((c:Int)+1).toNat=c+1 by omega,fV,if_neg (by omega),get_at L c hc]
 cases own L[c].own cZ with
 | some x=>rfl
 | none=>exact nD L h cZ c _ (by omega) (by omega)
theorem Cu(L:List dr)(h:Ok L)(o cZ:Int)(k:Nat)(c:Int)(hk:c<k)(hc:c<L.length):oD L o cZ (k+1) c=oD L o cZ k c:=by
 induction k generalizing c with
 | zero=>rw[oD,oD,if_pos (by omega)]
 | succ k ih =>
  rw[uw L o cZ (k+1),uw L o cZ k c];by_cases h0:c<0\/c=o
  . rw[if_pos h0,if_pos h0]
  . rw[if_neg h0,if_neg h0]
    cases own (get L c).own cZ with
    | some x=>rfl
    | none =>
     have hp:=h c.toNat (by omega)
     have e:(get L c)=L[c.toNat]'(by omega):=by unfold get;rw[List.getD_eq_getElem?_getD,List.getElem?_eq_getElem (by omega)];rfl
     rw[<- e]at hp;exact ih _ (by omega) (by omega)
theorem yv(L:List dr)(h:Ok L)(o cZ:Int)(k:Nat)(c:Int)(hk:c<k)(hc:c<L.length):oD L o cZ k c=jA L c o cZ:=by
 unfold jA;obtain⟨d,hd⟩:∃ d,k=(c+1).toNat+d:=⟨k-(c+1).toNat,by omega⟩
 subst hd;clear hk
 induction d with
 | zero=>rfl
 | succ d ih=>rw[<- Nat.add_assoc,Cu L h o cZ _ c (by omega) hc,ih]
theorem lj(L:List dr)(c o cZ:Int)(h:c<0\/c=o):jA L c o cZ=decide (c=o):=by
 unfold jA
 cases (c+1).toNat with
 | zero=>rfl
 | succ k=>rw[oD,if_pos h]
theorem wZ(L:List dr)(h:Ok L)(c:Nat)(o cZ:Int)(hc:c<L.length)(ho:(c:Int)≠o):jA L c o cZ=match own L[c].own cZ with
 | some _=>false
 | none=>jA L L[c].cE o cZ:=by
 have hp:=h c hc
 conv=>lhs;unfold jA
 rw[show((c:Int)+1).toNat=c+1 by omega,oD,if_neg (by omega),get_at L c hc]
 cases own L[c].own cZ with
 | some x=>rfl
 | none=>exact yv L h o cZ c _ (by omega) (by omega)
def jn(L:List dr)(c:Int)(all:List Int):List Int:=oE L (c+1).toNat c all
theorem Cv(L:List dr)(h:Ok L)(k:Nat)(c:Int)(all:List Int)(hk:c<k)(hc:c<L.length):oE L (k+1) c all=oE L k c all:=by
 induction k generalizing c all with
 | zero=>rw[oE,oE,if_pos (by omega)]
 | succ k ih =>
  rw[ux L (k+1),ux L k c all];by_cases h0:c<0
  . rw[if_pos h0,if_pos h0]
  . rw[if_neg h0,if_neg h0]
    have hp:=h c.toNat (by omega)
    have e:(get L c)=L[c.toNat]'(by omega):=by unfold get;rw[List.getD_eq_getElem?_getD,List.getElem?_eq_getElem (by omega)];rfl
    rw[<- e]at hp;exact ih _ _ (by omega) (by omega)
theorem yw(L:List dr)(h:Ok L)(k:Nat)(c:Int)(all:List Int)(hk:c<k)(hc:c<L.length):oE L k c all=jn L c all:=by
 unfold jn;obtain⟨d,hd⟩:∃ d,k=(c+1).toNat+d:=⟨k-(c+1).toNat,by omega⟩
 subst hd;clear hk
 induction d with
 | zero=>rfl
 | succ d ih=>rw[<- Nat.add_assoc,Cv L h _ c all (by omega) hc,ih]
theorem xa(L:List dr)(c:Int)(all:List Int)(h:c<0):jn L c all=all:=by
 unfold jn;rw[show(c+1).toNat=0 by omega]
 rfl
theorem uy(L:List dr)(h:Ok L)(c:Nat)(all:List Int)(hc:c<L.length):jn L c all=jn L L[c].cE (jH all L[c].own):=by
 have hp:=h c hc
 conv=>lhs;unfold jn
 rw[show((c:Int)+1).toNat=c+1 by omega,oE,if_neg (by omega),get_at L c hc]
 exact yw L h c _ _ (by omega) (by omega)
end Ref
namespace Mem
theorem jo(m:Mem)(a:Int):(m.cell a).2=m.cM a:=by
 unfold cell;split
 . rename_i h;exact h.symm
 . rfl
theorem kI(m:Mem)(a:Int)(h:m.cM a=0):m.cell a=(zM (m.get a.toNat 8),0):=by
 unfold cell;rw[if_pos h]
theorem iM(m:Mem)(a:Int)(h:m.cM a≠0):m.cell a=(0,m.cM a):=by
 unfold cell;rw[if_neg h]
theorem gj{m m':Mem}(h:m'.size=m.size)(a:Int):m'.cM a=m.cM a:=by
 unfold cM has;rw[h]
theorem oG{m m':Mem}(h:m'.size=m.size)(a:Int)(hg:m.cM a=0->m'.get a.toNat 8=m.get a.toNat 8):m'.cell a=m.cell a:=by
 by_cases h0:m.cM a=0
 . rw[kI m a h0,kI m' a (by rw[gj h];exact h0),hg h0]
 . rw[iM m a h0,iM m' a (by rw[gj h];exact h0),gj h]
theorem nE(m:Mem)(a n b:Int):(m.setCell a n).1.cM b=m.cM b:=gj (m.cQ a n) b
theorem fe(m:Mem)(a n:Int)(h:m.cM a=0)(h0 : -9223372036854775808<=n)(h1:n<=9223372036854775807):(m.setCell a n).1.cell a=(n,0):=by
 rw[kI _ _ (by rw[nE];exact h)]
 unfold setCell;rw[if_pos h];simp only
 rw[nC,Nat.mod_eq_of_lt (by have:=Jn n;omega),N0 n h0 h1]
theorem dQ(m:Mem)(a n b:Int)(h:b≠a):(m.setCell a n).1.cell b=m.cell b:=by
 apply oG (m.cQ a n)
 intro hb;unfold setCell;split
 . rename_i ha
   rw[dX]at ha hb;simp only
   rw[hY _ _ _ _ _ _ (by omega)]
 . rfl
theorem jq(m:Mem)(a n:Int):(m.setCell a n).2=m.cM a:=by
 unfold setCell;split
 . rename_i h;exact h.symm
 . rfl
theorem mH(m:Mem)(a n:Int)(h:m.has a n=true):m.dJ a n=(fg n.toNat (m.get a.toNat n.toNat),0):=by
 unfold dJ;rw[if_pos h]
theorem yx(m:Mem)(a n i k:Nat)(h:i+k<=n):((m.get a n) >>> (8*i)) % 2 ^ (8*k)=m.get (a+i) k:=by
 apply Nat.eq_of_testBit_eq
 intro j;rw[Nat.testBit_mod_two_pow,Nat.testBit_shiftRight,fK,fK,show 8*a+(8*i+j)=8*(a+i)+j by omega]
 by_cases hj:j<8*k
 . have:8*i+j<8*n:=by omega
   simp[hj,this]
 . simp[hj]
theorem Gn(m:Mem)(t u n:Int)(ht:m.has t n=true)(hu:m.has u n=true):(m.cS u (m.dJ t n).1).2=0:=by
 rw[mH m t n ht];rw[eI]at ht;unfold cS;rw[gK,show((n.toNat:Nat):Int)=n by omega,if_pos hu]
theorem N7(m:Mem)(t u n i:Int)(ht:m.has t n=true)(hu:m.has u n=true)(t8:t % 8=0)(u8:u % 8=0)(i8:i % 8=0)(h0:0<=i)(h1:i+8<=n) :
 (m.cS u (m.dJ t n).1).1.cell (u+i)=m.cell (t+i):=by
 rw[mH m t n ht];rw[eI]at ht hu;have hsz:(m.cS u (fg n.toNat (m.get t.toNat n.toNat))).1.size=m.size:=m.eh _ _;have ha:m.cM (t+i)=0:=by rw[dX];omega
 have hb:m.cM (u+i)=0:=by rw[dX];omega
 rw[kI _ _ ha,kI _ _ (by rw[gj hsz];exact hb)]
 unfold cS;rw[gK,show((n.toNat:Nat):Int)=n by omega,if_pos (by rw[eI];omega)]
 simp only
 rw[p' _ _ _ _ _ _ (by omega) (by omega),Co,Nat.mod_eq_of_lt (m.lf _ _),yx _ _ _ _ _ (by omega)]
 rw[show t.toNat+((u+i).toNat-u.toNat)=(t+i).toNat by omega]
theorem Jt(m:Mem)(t u n b:Int)(ht:m.has t n=true)(hb:b+8<=u\/u+n<=b):(m.cS u (m.dJ t n).1).1.cell b=m.cell b:=by
 rw[mH m t n ht];rw[eI]at ht;apply oG (m.eh _ _)
 intro h0;unfold cS;split
 . rename_i hu
   rw[gK,eI]at hu;rw[dX]at h0;simp only
   rw[hY _ _ _ _ _ _ (by rw[gK];omega)]
 . rfl
end Mem
namespace dj
def UJ(f:Int->Int)(n h s i:Int):Prop:=0<=i/\i<n/\(f ((h+i) % n)=s\/f ((h+i) % n)=0)/\∀ j,0<=j->j<i->f ((h+j) % n)≠s/\f ((h+j) % n)≠0
theorem zV(m:Mem)(t s n:Int)(k:Nat)(i:Int)(h0:0<=i)(hk:i+k=n)(hb:∀ j,0<=j->j<i->(cT m t ((gB s n+j) % n)).cZ≠s/\(cT m t ((gB s n+j) % n)).cZ≠0) :
 ((iu m t s n k i).1 = -1/\∀ j,0<=j->j<n->(cT m t ((gB s n+j) % n)).cZ≠s/\(cT m t ((gB s n+j) % n)).cZ≠0) \/
 (∃ j,(iu m t s n k i).1=(gB s n+j) % n/\UJ (fun k=>(cT m t k).cZ) n (gB s n) s j):=by
 induction k generalizing i with
 | zero=>exact .inl ⟨rfl,fun j h1 h2=>hb j h1 (by omega)⟩
 | succ k ih =>
  rw[iu];split
  . rename_i h
    exact .inr ⟨i,rfl,h0,by omega,h,hb⟩
  . rename_i h
    refine ih (i+1) (by omega) (by omega) fun j h1 h2=>?_
    by_cases he:j=i
    . subst he;exact⟨fun e=>h (.inl e),fun e=>h (.inr e)⟩
    . exact hb j h1 (by omega)
theorem Gp(n h k:Int)(h0:0<=k)(h1:k<n):∃ j,0<=j/\j<n/\(h+j) % n=k:=by
 refine⟨(k-h) % n,Int.emod_nonneg _ (by omega),Int.emod_lt_of_pos _ (by omega),?_⟩
 rw[Int.add_emod_emod,show h+(k-h)=k by omega,Int.emod_eq_of_lt h0 h1]
theorem Gq(n h i j:Int)(hi:0<=i)(hi':i<n)(hj:0<=j)(hj':j<n)(e:(h+i) % n=(h+j) % n):i=j:=by
 have h1:(h+i-(h+j)) % n=0:=by
  rw[Int.sub_emod,e];simp
 rw[show h+i-(h+j)=i-j by omega]at h1
 obtain⟨q,hq⟩:=Int.dvd_of_emod_eq_zero h1;by_cases h0:q=0
 . subst h0;omega
 . exfalso
   by_cases hp:0<q
   . have:=Int.mul_le_mul_of_nonneg_left (show 1<=q by omega) (show 0<=n by omega)
     omega
   . have:=Int.mul_le_mul_of_nonneg_left (show q <= -1 by omega) (show 0<=n by omega)
     omega
theorem ll(m:Mem)(t s n:Int)(hn:cy m t=n) :
 ((ek m t s).1 = -1/\∀ k,0<=k->k<n->(cT m t k).cZ≠s/\(cT m t k).cZ≠0) \/
 (∃ j,(ek m t s).1=(gB s n+j) % n/\UJ (fun k=>(cT m t k).cZ) n (gB s n) s j):=by
 have hb:=iL m t;unfold ek;rw[hn]
 rcases zV m t s n n.toNat 0 (Int.le_refl _) (by omega) (fun j h1 h2=>by omega)with⟨h1,h2⟩ | h
 . refine .inl ⟨h1,fun k k0 k1=>?_⟩
   obtain⟨j,j0,j1,e⟩:=Gp n (gB s n) k k0 k1;have:=h2 j j0 j1
   rwa [e]at this
 . exact .inr h
theorem xb(m:Mem)(t s n j:Int)(hn:cy m t=n)(h:UJ (fun k=>(cT m t k).cZ) n (gB s n) s j):(ek m t s).1=(gB s n+j) % n:=by
 obtain⟨j0,j1,hm,hb⟩:=h;have hr0:=Int.emod_nonneg (gB s n+j) (show n≠0 by omega)
 have hr1:=Int.emod_lt_of_pos (gB s n+j) (show 0<n by omega)
 rcases ll m t s n hn with⟨_,h2⟩ | ⟨i,hi,i0,i1,hm',hb'⟩
 . have:=h2 _ hr0 hr1
   simp only at hm
   omega
 . rw[hi]
   by_cases h1:i<j
   . have:=hb i i0 h1
     simp only at hm' this
     omega
   . by_cases h2:j<i
     . have:=hb' j j0 h2
       simp only at hm this
       omega
     . rw[show i=j by omega]
def mI(m:Mem)(t n:Int):Prop:=cy m t=n/\1<=n/\∀ k,0<=k->k<n->(cT m t k).cZ≠0->1<=(cT m t k).cZ/\(ek m t (cT m t k).cZ).1=k
def look(m:Mem)(t s:Int):Option jz:=if(get m t s).2.2 then some (get m t s).1 else none
theorem yy(m:Mem)(t s:Int):look m t s=if(ek m t s).1<0\/s<1 then none else if(cT m t (ek m t s).1).cZ≠s then none else some (cT m t (ek m t s).1):=by
 unfold look get;by_cases h1:(ek m t s).1<0\/s<1
 . rw[if_pos h1,if_pos h1];rfl
 . rw[if_neg h1,if_neg h1]
   by_cases h2:(cT m t (ek m t s).1).cZ≠s
   . rw[if_pos h2,if_pos h2];rfl
   . rw[if_neg h2,if_neg h2];rfl
theorem zW(m:Mem)(t s:Int)(h:s<1):look m t s=none:=by rw[yy,if_pos (.inr h)]
theorem mJ{m:Mem}{t n:Int}(h:mI m t n)(k s:Int)(k0:0<=k)(k1:k<n)(hs:(cT m t k).cZ=s)(s1:1<=s):look m t s=some (cT m t k):=by
 have hp:=(h.2.2 k k0 k1 (by omega)).2
 rw[hs]at hp;rw[yy,hp,if_neg (by omega),if_neg (by rw[hs];simp)]
theorem qh{m:Mem}{t n:Int}(hn:cy m t=n){s:Int}{e:jz}(hl:look m t s=some e):∃ k,0<=k/\k<n/\cT m t k=e/\e.cZ=s/\1<=s:=by
 rw[yy]at hl;have hb:=mF m t s;split at hl
 . cases hl
 . split at hl
   . cases hl
   . cases hl
     exact⟨_,by omega,by omega,rfl,by omega,by omega⟩
theorem rY{m:Mem}{t n:Int}(hn:cy m t=n){s:Int}(h:∀ k,0<=k->k<n->(cT m t k).cZ≠s):look m t s=none:=by
 cases hl:look m t s with
 | none=>rfl
 | some e =>
  obtain⟨k,k0,k1,he,hs,_⟩:=qh hn hl;exact absurd (by rw[he];exact hs) (h k k0 k1)
theorem zX(m:Mem)(t s:Int):(get m t s).2.2=(look m t s).isSome:=by
 unfold look
 cases (get m t s).2.2 <;> rfl
theorem uz{m:Mem}{t s:Int}{e:jz}(h:look m t s=some e):(get m t s).1=e:=by
 unfold look at h;split at h
 . exact Option.some.inj h
 . cases h
theorem oH{m m':Mem}{t t':Int}(hs:cy m' t'=cy m t)(hr:∀ k,0<=k->k<cy m t->(cT m' t' k).cZ=(cT m t k).cZ)(s:Int):ek m' t' s=ek m t s:=by
 have hb:=iL m t;unfold ek;rw[hs];by_cases h0:cy m t=0
 . rw[h0];rfl
 . generalize (cy m t).toNat=k
   generalize (0:Int)=i
   induction k generalizing i with
   | zero=>rfl
   | succ k ih =>
    have:=hr ((gB s (cy m t)+i) % cy m t) (Int.emod_nonneg _ h0) (Int.emod_lt_of_pos _ (by omega))
    rw[iu,iu,this,ih]
theorem Gr{m m':Mem}{t t':Int}(hs:cy m' t'=cy m t)(hr:∀ k,0<=k->k<cy m t->cT m' t' k=cT m t k)(s:Int):get m' t' s=get m t s:=by
 unfold get;rw[oH hs (fun k h0 h1=>by rw[hr k h0 h1]) s]
 have hb:=mF m t s;by_cases h1:(ek m t s).1<0\/s<1
 . rw[if_pos h1,if_pos h1]
 . rw[if_neg h1,if_neg h1,hr _ (by omega) (by omega)]
theorem ln{m m':Mem}{t t':Int}(hs:cy m' t'=cy m t)(hr:∀ k,0<=k->k<cy m t->cT m' t' k=cT m t k)(s:Int):look m' t' s=look m t s:=by
 unfold look;rw[Gr hs hr s]
theorem lp{m m':Mem}{t t' n:Int}(hs:cy m' t'=cy m t)(hr:∀ k,0<=k->k<cy m t->cT m' t' k=cT m t k)(h:mI m t n):mI m' t' n:=by
 obtain⟨h1,h2,h3⟩:=h;refine⟨by rw[hs,h1],h2,fun k k0 k1=>?_⟩
 rw[hr k k0 (by omega),oH hs (fun k h0 h1=>by rw[hr k h0 h1])]
 exact h3 k k0 k1
theorem qO{m:Mem}{t n:Int}(hc:m.cell t=(n,0))(n1:1<=n)(n2:n<=1024)(h:t+(2+n*3)*8<=m.size):cy m t=n:=by
 have h0:m.cM t=0:=by rw[<- Mem.jo,hc]
 rw[Mem.dX]at h0;unfold cy;rw[hc];simp only
 rw[if_neg (by omega),Mem.mH _ _ _ (by rw[Mem.eI];omega)]
 rfl
theorem qi{m:Mem}{t n:Int}(h:cy m t=n)(n1:1<=n):m.cell t=(n,0):=by
 unfold cy at h;split at h
 . omega
 . rename_i h1
   split at h
   . omega
   . have:(m.cell t).2=0:=by omega
     rw[<- h,<- this]
theorem lX{m m':Mem}{t:Int}(hz:m'.size=m.size)(h1:1<=cy m t)(hc:∀ a,t<=a->a<t+(2+cy m t*3)*8->m'.cell a=m.cell a):cy m' t=cy m t:=by
 have hb:=iL m t;have hi:=lg m t (by omega)
 refine qO ?_ h1 hb.2 (by rw[hz];exact hi.2.2)
 rw[hc t (Int.le_refl _) (by omega)]
 exact qi rfl h1
theorem nF{m m':Mem}{t n k:Int}(k0:0<=k)(k1:k<n)(hc:∀ a,t<=a->a<t+(2+n*3)*8->m'.cell a=m.cell a):cT m' t k=cT m t k:=by
 unfold cT pos;rw[hc _ (by omega) (by omega),hc _ (by omega) (by omega),hc _ (by omega) (by omega)]
def used(m:Mem)(t n:Int):List Int:=((List.range n.toNat).filter (fun (k:Nat)=>(cT m t k).cZ≠0)).map (fun (k:Nat)=>(cT m t k).cZ)
theorem Ju{m:Mem}{t n:Int}(h:mI m t n)(s:Int):s ∈ used m t n ↔ (look m t s).isSome=true:=by
 unfold used;constructor
 . intro hm
   rw[List.mem_map]at hm;obtain⟨k,hk,he⟩:=hm;rw[List.mem_filter,List.mem_range]at hk;have hk2:=of_decide_eq_true hk.2;have:=h.2.2 k (by omega) (by omega) hk2
   rw[mJ h k s (by omega) (by omega) he (by omega)]
   rfl
 . intro hl
   obtain⟨e,he⟩:=Option.isSome_iff_exists.1 hl;obtain⟨k,k0,k1,hr,hs,s1⟩:=qh h.1 he;rw[List.mem_map];refine⟨k.toNat,?_,?_⟩
   . rw[List.mem_filter,List.mem_range]
     refine⟨by omega,?_⟩
     rw[show((k.toNat:Nat):Int)=k by omega,hr]
     exact decide_eq_true (by omega)
   . rw[show((k.toNat:Nat):Int)=k by omega,hr,hs]
theorem Cw{m:Mem}{t n:Int}(h:mI m t n):(used m t n).Nodup:=by
 unfold used;have hf:((List.range n.toNat).filter (fun (k:Nat)=>(cT m t k).cZ≠0)).Nodup:=List.Nodup.sublist List.filter_sublist List.nodup_range
 rw[List.nodup_iff_pairwise_ne,List.pairwise_map];refine List.Pairwise.imp_of_mem ?_ hf;intro a b ha hb hab e;rw[List.mem_filter,List.mem_range]at ha hb;have h1:=(h.2.2 a (by omega) (by omega) (of_decide_eq_true ha.2)).2
 have h2:=(h.2.2 b (by omega) (by omega) (of_decide_eq_true hb.2)).2
 rw[e,h2]at h1;omega
theorem filter_lt{α:Type}(p:α->Bool)(l:List α)(x:α)(hx:x ∈ l)(hp:p x=false):(l.filter p).length<l.length:=by
 induction l with
 | nil=>cases hx
 | cons a l ih =>
  rw[List.filter_cons];have hle:=List.length_filter_le p l
  rcases List.mem_cons.1 hx with rfl | h
  . rw[hp,List.length_cons]
    simp only[Bool.false_eq_true,if_false]
    omega
  . have:=ih h
    split <;> simp only[List.length_cons] <;> omega
theorem N8{m:Mem}{t n:Int}(h:mI m t n)(s:Int)(s1:1<=s):tH m t s=true ↔ (look m t s).isSome=true\/(used m t n).length<n:=by
 have hlen:(used m t n).length=((List.range n.toNat).filter (fun (k:Nat)=>(cT m t k).cZ≠0)).length:=by unfold used;rw[List.length_map]
 have hmay:tH m t s=true ↔ 0<=(ek m t s).1:=by
  unfold tH;simp only[Bool.and_eq_true,decide_eq_true_eq]
  omega
 rw[hmay,hlen]
 rcases ll m t s n h.1 with⟨h1,h2⟩ | ⟨j,hj,j0,j1,hm,hb⟩
 . rw[rY h.1 (fun k k0 k1=>(h2 k k0 k1).1)]
   have:(List.range n.toNat).filter (fun (k:Nat)=>(cT m t k).cZ≠0)=List.range n.toNat:=by
    rw[List.filter_eq_self];intro k hk;rw[List.mem_range]at hk;exact decide_eq_true (h2 k (by omega) (by omega)).2
   rw[this,List.length_range];simp
   omega
 . have hr0:=Int.emod_nonneg (gB s n+j) (show n≠0 by omega)
   have hr1:=Int.emod_lt_of_pos (gB s n+j) (show 0<n by omega)
   rw[hj];refine⟨fun _=>?_,fun _=>hr0⟩
   rcases hm with hm | hm
   . left
     rw[mJ h _ s hr0 hr1 hm s1];rfl
   . right
     have:=filter_lt (fun (k:Nat)=>decide ((cT m t k).cZ≠0)) (List.range n.toNat) ((gB s n+j) % n).toNat (by rw[List.mem_range];omega) (by
      rw[show((((gB s n+j) % n).toNat:Nat):Int)=(gB s n+j) % n by omega]
      exact decide_eq_false (by intro h;exact h hm))
     rw[List.length_range]at this;omega
theorem Jv{m m':Mem}{t n r:Int}{x:jz}(h:mI m t n)(hs:cy m' t=n)(x1:1<=x.cZ)(hr:(ek m t x.cZ).1=r)(r0:0<=r)(hx:cT m' t r=x)
 (ho:∀ k,0<=k->k<n->k≠r->cT m' t k=cT m t k):mI m' t n/\∀ s,look m' t s=if s=x.cZ then some x else look m t s:=by
 have hn:=h.2.1;have hb:=mF m t x.cZ;have hr1:r<n:=by have:=h.1;omega
 have yB:mI m' t n:=by
  refine⟨hs,hn,fun k k0 k1 hk=>?_⟩
  rcases ll m t x.cZ n h.1 with⟨h1,h2⟩ | ⟨i,hi,i0,i1,hm,hbi⟩
  . omega
  by_cases hkr:k=r
  . subst hkr
    rw[hx];refine⟨x1,?_⟩;rw[hr]at hi;rw[hi];refine xb m' t x.cZ n i hs ⟨i0,i1,.inl (by simp only;rw[<- hi,hx]),fun j j0 j1=>?_⟩
    have:=hbi j j0 j1
    have hne:(gB x.cZ n+j) % n≠k:=by
     rw[hi];intro e;have:=Gq n (gB x.cZ n) j i j0 (by omega) i0 i1 e
     omega
    simp only at this |-
    rw[ho _ (Int.emod_nonneg _ (by omega)) (Int.emod_lt_of_pos _ (by omega)) hne]
    exact this
  . rw[ho k k0 k1 hkr]at hk |-
    obtain⟨k2,k3⟩:=h.2.2 k k0 k1 hk;refine⟨k2,?_⟩;have hne:(cT m t k).cZ≠x.cZ:=by intro e;rw[e,hr]at k3;omega
    rcases ll m t (cT m t k).cZ n h.1 with⟨h1,h2⟩ | ⟨j,hj,j0,j1,YK,hbj⟩
    . omega
    . rw[k3]at hj
      conv=>rhs;rw[hj]
      refine xb m' t _ n j hs ⟨j0,j1,.inl (by simp only;rw[<- hj,ho k k0 k1 hkr]),fun i' a0 a1=>?_⟩
      have:=hbj i' a0 a1;simp only at this |-
      by_cases hir:(gB (cT m t k).cZ n+i') % n=r
      . rw[hir,hx]
        exact⟨fun e=>hne e.symm,by omega⟩
      . rw[ho _ (Int.emod_nonneg _ (by omega)) (Int.emod_lt_of_pos _ (by omega)) hir]
        exact this
 refine⟨yB,fun s=>?_⟩
 by_cases hsx:s=x.cZ
 . rw[if_pos hsx,hsx,mJ yB r x.cZ r0 hr1 (by rw[hx]) x1,hx]
 . rw[if_neg hsx]
   cases hl:look m t s with
   | some e =>
    obtain⟨k,k0,k1,he,hse,s1⟩:=qh h.1 hl;by_cases hkr:k=r
    . exfalso
      subst hkr;have:=(h.2.2 k k0 k1 (by rw[he];omega)).2
      rcases ll m t x.cZ n h.1 with⟨h1,h2⟩ | ⟨i,hi,i0,i1,hm,hbi⟩
      . omega
      . simp only at hm
        rw[<- hi,hr,he]at hm;omega
    . rw[mJ yB k s k0 k1 (by rw[ho k k0 k1 hkr,he];exact hse) s1,ho k k0 k1 hkr,he]
   | none =>
    by_cases s1:s<1
    . exact zW _ _ _ s1
    apply rY yB.1
    intro k k0 k1 hk;by_cases hkr:k=r
    . subst hkr;rw[hx]at hk;exact hsx hk.symm
    . rw[ho k k0 k1 hkr]at hk
      rw[mJ h k s k0 k1 hk (by omega)]at hl
      cases hl
end dj
def dB(n:Int):Prop := -9223372036854775808<=n/\n<=9223372036854775807
namespace Mem
def fk(m:Mem)(a:Int):List Int->Mem
 | []=>m
 | n :: l=>fk (m.setCell a n).1 (a+8) l
theorem gE(m:Mem)(a:Int)(l:List Int):(m.fk a l).size=m.size:=by
 induction l generalizing m a with
 | nil=>rfl
 | cons n l ih=>rw[fk,ih,cQ]
theorem gU(m:Mem)(a:Int)(l:List Int)(b:Int)(h:b<a\/a+8*l.length<=b):(m.fk a l).cell b=m.cell b:=by
 induction l generalizing m a with
 | nil=>rfl
 | cons n l ih =>
  rw[List.length_cons]at h;rw[fk,ih _ _ (by omega),dQ _ _ _ _ (by omega)]
theorem kU(m:Mem)(a:Int)(l:List Int)(a8:a % 8=0)(a0:0<=a)(ha:a+8*l.length<=m.size)(hb:∀ n ∈ l,dB n)(j:Nat)(hj:j<l.length):(m.fk a l).cell (a+8*j)=(l[j],0):=by
 induction l generalizing m a j with
 | nil=>cases hj
 | cons n l ih =>
  rw[List.length_cons]at ha hj;rw[fk]
  cases j with
  | zero =>
   rw[gU _ _ _ _ (by omega)]
   have:=hb n (by simp)
   simp only[Int.natCast_zero,Int.mul_zero,Int.add_zero,List.getElem_cons_zero]
   exact fe _ _ _ (by rw[dX];omega) this.1 this.2
  | succ j =>
   rw[show a+8*((j+1:Nat):Int)=a+8+8*j by omega]
   rw[ih _ _ (by omega) (by omega) (by rw[cQ];omega) (fun n hn=>hb n (by simp[hn])) j (by omega)]
   rfl
end Mem
namespace Sp
def wr(x:Sp)(l:List Int):Sp:=⟨x.mem.fk x.cu l,x.lo,x.to,x.cu+8*l.length⟩
structure Al(x:Sp):Prop where
 ok:x.Ok
 al:x.cu % 8=0
theorem Cx(x:Sp):x.wr []=x:=by unfold wr;simp[Mem.fk]
theorem tQ(x:Sp)(n:Int)(l:List Int):x.wr (n :: l)=(x.wr [n]).wr l:=by
 unfold wr;simp only[Mem.fk,List.length_cons,List.length_nil]
 congr 1
 omega
theorem Al.wr{x:Sp}(h:x.Al){l:List Int}(hr:x.cu+8*l.length<=x.to):(x.wr l).Al:=by
 obtain⟨⟨h1,h2,h3,h4⟩,h5⟩:=h;refine⟨⟨h1,?_,hr,?_⟩,?_⟩
 . show x.lo<=x.cu+8*l.length;omega
 . show x.to<=(x.mem.fk x.cu l).size;rw[Mem.gE];exact h4
 . show(x.cu+8*l.length) % 8=0;omega
theorem mK{x:Sp}(h:x.cu % 8=0):x.align=(x,0):=by
 unfold align fD;rw[if_pos h]
theorem iV{x:Sp}(h:x.Al)(hr:x.cu+8<=x.to)(n:Int):x.cN n=(x.wr [n],0):=by
 obtain⟨⟨h1,h2,h3,h4⟩,h5⟩:=h;have ha:x.mem.cM x.cu=0:=by rw[Mem.dX];omega
 unfold cN put;rw[if_pos (by omega),Mem.jq,if_neg (by omega)]
 unfold gA;simp only
 rw[if_neg (by omega)]
 rfl
end Sp
namespace Iface
theorem uA(l:List Int){x:Sp}(h:x.Al)(hr:x.cu+8*l.length<=x.to):cells l (x,0)=(x.wr l,0):=by
 induction l generalizing x with
 | nil=>rw[Sp.Cx];rfl
 | cons n l ih =>
  rw[List.length_cons]at hr;rw[cells,if_pos rfl];simp only
  have h8:(x.wr [n]).cu=x.cu+8:=by show x.cu+8*_=_;simp
  have tf:(x.wr [n]).to=x.to:=rfl;rw[Sp.iV h (by omega),Sp.tQ x n l]
  exact ih (h.wr (l:=[n]) (by rw[List.length_cons,List.length_nil];omega)) (by rw[h8,tf];omega)
end Iface
namespace Class
theorem uA(l:List Int){x:Sp}(h:x.Al)(hr:x.cu+8*l.length<=x.to)(a:Int):dT.cells x l a=(x.wr l,a,0):=by
 induction l generalizing x with
 | nil=>rw[Sp.Cx];rfl
 | cons n l ih =>
  rw[List.length_cons]at hr;rw[dT.cells];have h8:(x.wr [n]).cu=x.cu+8:=by show x.cu+8*_=_;simp
  have tf:(x.wr [n]).to=x.to:=rfl;rw[Sp.iV h (by omega),if_neg (by simp),Sp.tQ x n l]
  exact ih (h.wr (l:=[n]) (by rw[List.length_cons,List.length_nil];omega)) (by rw[h8,tf];omega)
end Class
namespace dj
def lr(cy:Int)(k:Nat)(i:Int):List Int:=(List.range k).map fun (j:Nat)=>if i+j=0 then cy else 0
theorem Gs(cy:Int)(k:Nat)(i:Int):(lr cy k i).length=k:=by simp[lr]
theorem Cy(cy:Int)(k:Nat)(i:Int):lr cy (k+1) i=(if i=0 then cy else 0) :: lr cy k (i+1):=by
 unfold lr;rw[List.range_succ_eq_map,List.map_cons,List.map_map];congr 1
 . simp
 . apply List.map_congr_left
   intro j _
   show(if i+((j+1:Nat):Int)=0 then cy else 0)=_
   rw[show i+((j+1:Nat):Int)=i+1+j by omega]
theorem Gt(cy:Int)(k:Nat)(i:Int){x:Sp}(h:x.Al)(hr:x.cu+8*k<=x.to):kj cy k i x=(x.wr (lr cy k i),0):=by
 induction k generalizing x i with
 | zero=>rw[kj];show(x,0)=(x.wr [],0);rw[Sp.Cx]
 | succ k ih =>
  rw[kj,Cy];generalize (if i=0 then cy else 0)=n
  have h8:(x.wr [n]).cu=x.cu+8:=by show x.cu+8*_=_;simp
  have tf:(x.wr [n]).to=x.to:=rfl;rw[Sp.iV h (by omega),if_neg (by simp),Sp.tQ x n (lr cy k (i+1))]
  exact ih _ (h.wr (l:=[n]) (by rw[List.length_cons,List.length_nil];omega)) (by rw[h8,tf];omega)
theorem EK{x:Sp}(h:x.Al)(cy:Int)(s1:1<=cy)(s2:cy<=1024)(hr:x.cu+(2+cy*3)*8<=x.to) :
 ∃ y:Sp,new x cy=(y,x.cu,0)/\y.Al/\y.lo=x.lo/\y.to=x.to/\y.cu=x.cu+(2+cy*3)*8/\y.mem.size=x.mem.size /\
  (∀ b,(b<x.cu\/y.cu<=b)->y.mem.cell b=x.mem.cell b)/\mI y.mem x.cu cy/\∀ s,look y.mem x.cu s=none:=by
 have hk:((2+cy*3).toNat:Int)=2+cy*3:=by omega
 obtain⟨⟨o1,o2,o3,o4⟩,o5⟩:=h;have hrr:x.cu+8*((2+cy*3).toNat:Int)<=x.to:=by omega
 have hN:=Gt cy (2+cy*3).toNat 0 ⟨⟨o1,o2,o3,o4⟩,o5⟩ hrr;have hlen:=Gs cy (2+cy*3).toNat 0
 have hin:∀ j,0<=j->j<2+cy*3->(x.wr (lr cy (2+cy*3).toNat 0)).mem.cell (x.cu+8*j)=(if j=0 then cy else 0,0):=by
  intro j j0 j1
  have:=Mem.kU x.mem x.cu (lr cy (2+cy*3).toNat 0) o5 (by omega) (by rw[hlen];omega) (by
   intro n hn;unfold lr at hn;rw[List.mem_map]at hn;obtain⟨i,_,rfl⟩:=hn;unfold dB
   split <;> omega) j.toNat (by rw[hlen];omega)
  rw[show((j.toNat:Nat):Int)=j by omega]at this
  show(x.mem.fk x.cu _).cell _=_
  rw[this];unfold lr;rw[List.getElem_map,List.getElem_range,show(0:Int)+((j.toNat:Nat):Int)=j by omega]
 refine⟨x.wr (lr cy (2+cy*3).toNat 0),?_,Sp.Al.wr ⟨⟨o1,o2,o3,o4⟩,o5⟩ (by rw[hlen];exact hrr),rfl,rfl,?_,Mem.gE _ _ _,fun b hb=>Mem.gU _ _ _ _ hb,?_⟩
 . unfold new
   rw[if_neg (by omega),Sp.mK o5,if_neg (by simp)]
   simp only
   rw[hN,if_neg (by simp)]
 . show x.cu+8*((lr cy (2+cy*3).toNat 0).length:Int)=_
   rw[hlen];omega
 . have hz:(x.wr (lr cy (2+cy*3).toNat 0)).mem.size=x.mem.size:=Mem.gE _ _ _
   generalize x.wr (lr cy (2+cy*3).toNat 0)=y at hin hN hz
   have hsl:dj.cy y.mem x.cu=cy:=by
    refine qO ?_ s1 s2 (by rw[hz];omega)
    have:=hin 0 (by omega) (by omega)
    simpa using this
   have hrd:∀ k,0<=k->k<cy->(cT y.mem x.cu k).cZ=0:=by
    intro k k0 k1;unfold cT pos;have:=hin (2+k*3) (by omega) (by omega)
    rw[show x.cu+(2+k*3)*8=x.cu+8*(2+k*3) by omega,this,if_neg (by omega)]
   refine⟨⟨hsl,s1,fun k k0 k1 hk=>absurd (hrd k k0 k1) hk⟩,fun s=>?_⟩
   by_cases hs:s<1
   . exact zW _ _ _ hs
   . exact rY hsl fun k k0 k1=>by rw[hrd k k0 k1];omega
theorem Q8{m:Mem}{t n:Int}(hn:cy m t=n)(n1:1<=n)(k j:Int)(k0:0<=k)(k1:k<n)(j0:0<=j)(j1:j<3):m.cM (pos t k+8*j)=0:=by
 have:=lg m t (by omega)
 rw[hn]at this;rw[Mem.dX];unfold pos;omega
theorem N9{m:Mem}{t n:Int}(h:mI m t n)(x:jz)(x1:1<=x.cZ)(b1:dB x.cZ)(b2:dB x.xt)(b3:dB x.j7)(hm:tH m t x.cZ=true) :
 (put m t x).2=0/\(put m t x).1.size=m.size/\(∀ a,(a<t+8\/t+(2+n*3)*8<=a)->(put m t x).1.cell a=m.cell a) /\
  mI (put m t x).1 t n/\∀ s,look (put m t x).1 t s=if s=x.cZ then some x else look m t s:=by
 have hn:=h.1;have n1:=h.2.1;have hi:=lg m t (by omega)
 rw[hn]at hi
 have r0:0<=(ek m t x.cZ).1:=by
  unfold tH at hm;rw[Bool.and_eq_true,decide_eq_true_eq]at hm;exact hm.1
 have r1:(ek m t x.cZ).1<n:=by
  have:=mF m t x.cZ;omega
 obtain⟨r,hr⟩:∃ r,(ek m t x.cZ).1=r:=⟨_,rfl⟩
 have hput:put m t x=((((((ox m t r).setCell (pos t r) x.cZ).1).setCell (pos t r+8) x.xt).1.setCell (pos t r+16) x.j7).1,0):=by
  unfold put;rw[if_neg (by omega),hr,if_neg (by omega)]
 rw[hr]at r0 r1;rw[hput];simp only
 have hbz:(ox m t r).size=m.size:=by unfold ox;split;exact Mem.cQ _ _ _;rfl
 have hbc:∀ a,a≠t+8->(ox m t r).cell a=m.cell a:=by
  intro a ha;unfold ox;split
  . exact Mem.dQ _ _ _ _ ha
  . rfl
 have hp:pos t r=t+(2+r*3)*8:=rfl
 have hz:((((ox m t r).setCell (pos t r) x.cZ).1.setCell (pos t r+8) x.xt).1.setCell (pos t r+16) x.j7).1.size=m.size:=by
  rw[Mem.cQ,Mem.cQ,Mem.cQ,hbz]
 have hout:∀ a,a≠t+8->a≠pos t r->a≠pos t r+8->a≠pos t r+16->((((ox m t r).setCell (pos t r) x.cZ).1.setCell (pos t r+8) x.xt).1.setCell (pos t r+16) x.j7).1.cell a=m.cell a:=by
  intro a a1 a2 a3 a4;rw[Mem.dQ _ _ _ _ a4,Mem.dQ _ _ _ _ a3,Mem.dQ _ _ _ _ a2,hbc a a1]
 have hat:∀ j,0<=j->j<3->(ox m t r).cM (pos t r+8*j)=0:=by
  intro j j0 j1;rw[Mem.gj hbz];exact Q8 hn n1 r j r0 r1 j0 j1
 have hc0:((((ox m t r).setCell (pos t r) x.cZ).1.setCell (pos t r+8) x.xt).1.setCell (pos t r+16) x.j7).1.cell (pos t r)=(x.cZ,0):=by
  rw[Mem.dQ _ _ _ _ (by omega),Mem.dQ _ _ _ _ (by omega)]
  exact Mem.fe _ _ _ (by have:=hat 0 (by omega) (by omega);simpa using this) b1.1 b1.2
 have hc1:((((ox m t r).setCell (pos t r) x.cZ).1.setCell (pos t r+8) x.xt).1.setCell (pos t r+16) x.j7).1.cell (pos t r+8)=(x.xt,0):=by
  rw[Mem.dQ _ _ _ _ (by omega)]
  exact Mem.fe _ _ _ (by rw[Mem.nE];have:=hat 1 (by omega) (by omega);simpa using this) b2.1 b2.2
 have hc2:((((ox m t r).setCell (pos t r) x.cZ).1.setCell (pos t r+8) x.xt).1.setCell (pos t r+16) x.j7).1.cell (pos t r+16)=(x.j7,0) :=
  Mem.fe _ _ _ (by rw[Mem.nE,Mem.nE];have:=hat 2 (by omega) (by omega);simpa using this) b3.1 b3.2
 generalize ((((ox m t r).setCell (pos t r) x.cZ).1.setCell (pos t r+8) x.xt).1.setCell (pos t r+16) x.j7).1=m' at hz hout hc0 hc1 hc2
 have hsl:cy m' t=n:=by
  refine qO ?_ n1 (by have:=iL m t;omega) (by omega)
  rw[hout t (by omega) (by omega) (by omega) (by omega)]
  exact qi hn n1
 have hrd:cT m' t r=x:=by
  unfold cT;rw[hc0,hc1,hc2]
 have hro:∀ k,0<=k->k<n->k≠r->cT m' t k=cT m t k:=by
  intro k k0 k1 hk;unfold cT;have e:pos t k=t+(2+k*3)*8:=rfl;rw[hout (pos t k) (by omega) (by omega) (by omega) (by omega),hout (pos t k+8) (by omega) (by omega) (by omega) (by omega),hout (pos t k+16) (by omega) (by omega) (by omega) (by omega)]
 exact⟨trivial,hz,fun a ha=>hout a (by omega) (by omega) (by omega) (by omega),Jv h hsl x1 hr r0 hrd hro⟩
theorem Jw{x:Sp}(h:x.Al){t n:Int}(ht:mI x.mem t n)(tc:t+(2+n*3)*8<=x.cu)(hr:x.cu+(2+n*3)*8<=x.to) :
 ∃ y:Sp,copy x t=(y,x.cu,0)/\y.Al/\y.lo=x.lo/\y.to=x.to/\y.cu=x.cu+(2+n*3)*8/\y.mem.size=x.mem.size /\
  (∀ b,(b<x.cu\/y.cu<=b)->y.mem.cell b=x.mem.cell b)/\mI y.mem x.cu n/\∀ s,look y.mem x.cu s=look x.mem t s:=by
 have n2:=iL x.mem t;have hn:=ht.1;have n1:=ht.2.1;have hin:=lg x.mem t (by omega)
 rw[hn]at hin n2;obtain⟨y,e,hy,y1,y2,y3,y4,y5,y6,y7⟩:=EK h n n1 n2.2 hr;have h1:=h.ok.1;have h2:=h.ok.2.1;have h4:=h.ok.2.2.2;have YI:=h.al;have hht:y.mem.has t ((2+n*3)*8)=true:=by rw[Mem.eI];omega
 have YG:y.mem.has x.cu ((2+n*3)*8)=true:=by rw[Mem.eI];omega
 have hcode:=Mem.Gn y.mem t x.cu _ hht YG;have hci:=fun i h0 h1 h8=>Mem.N7 y.mem t x.cu ((2+n*3)*8) i hht YG hin.2.1 YI h8 h0 h1
 have hco:=fun b hb=>Mem.Jt y.mem t x.cu ((2+n*3)*8) b hht hb
 have hcz:(y.mem.cS x.cu (y.mem.dJ t ((2+n*3)*8)).1).1.size=y.mem.size:=Mem.eh _ _ _
 have hcopy:copy x t=({ y with mem:=(y.mem.cS x.cu (y.mem.dJ t ((2+n*3)*8)).1).1 },x.cu,0):=by
  unfold copy;rw[hn,e,if_neg (by simp)]
  simp only
  rw[hcode]
 generalize (y.mem.cS x.cu (y.mem.dJ t ((2+n*3)*8)).1).1=m' at hci hco hcz hcopy
 have hcell:∀ i,0<=i->i+8<=(2+n*3)*8->i % 8=0->m'.cell (x.cu+i)=x.mem.cell (t+i):=by
  intro i i0 i1 i8;rw[hci i i0 i1 i8,y5 _ (.inl (by omega))]
 have hsl:cy m' x.cu=cy x.mem t:=by
  rw[hn];refine qO ?_ n1 n2.2 (by omega)
  have:=hcell 0 (by omega) (by omega) (by omega)
  rw[Int.add_zero,Int.add_zero]at this;rw[this];exact qi hn n1
 have hrd:∀ k,0<=k->k<cy x.mem t->cT m' x.cu k=cT x.mem t k:=by
  intro k k0 k1;rw[hn]at k1;have e0:∀ j,pos x.cu k+j=x.cu+((2+k*3)*8+j):=by intro j;unfold pos;omega
  have e1:∀ j,pos t k+j=t+((2+k*3)*8+j):=by intro j;unfold pos;omega
  have c:∀ j,0<=j->j<=16->j % 8=0->m'.cell (pos x.cu k+j)=x.mem.cell (pos t k+j):=by
   intro j j0 j1 j8;rw[e0,e1];exact hcell _ (by omega) (by omega) (by omega)
  have c0:=c 0 (by omega) (by omega) (by omega)
  rw[Int.add_zero,Int.add_zero]at c0;unfold cT;rw[c0,c 8 (by omega) (by omega) (by omega),c 16 (by omega) (by omega) (by omega)]
 refine⟨_,hcopy,⟨⟨?_,?_,?_,?_⟩,?_⟩,y1,y2,y3,?_,?_,lp hsl hrd ht,ln hsl hrd⟩
 . exact hy.ok.1
 . exact hy.ok.2.1
 . exact hy.ok.2.2.1
 . show y.to<=m'.size;rw[hcz];exact hy.ok.2.2.2
 . exact hy.al
 . show m'.size=_;rw[hcz,y4]
 . intro b hb
   show m'.cell b=_
   by_cases h8:b+8<=x.cu
   . rw[hco b (.inl h8),y5 b hb]
   . by_cases hbu:y.cu<=b
     . rw[hco b (.inr (by omega)),y5 b (.inr hbu)]
     have hb:b<x.cu:=hb.resolve_right hbu;have YL:b % 8≠0:=by omega
     have:x.mem.cM b≠0:=by rw[Ne,Mem.dX];omega
     have e2:m'.cM b=x.mem.cM b:=Mem.gj (by rw[hcz,y4]) b
     rw[Mem.iM _ _ this,Mem.iM m' b (by rw[e2];exact this),e2]
end dj
namespace Ref
theorem rZ(L:List dr)(c:Nat)(h:c<L.length):L[c]=get L c:=(get_at L c h).symm
theorem lu(L:List dr)(h:Ok L)(c:Nat)(cZ:Int)(hc:c<L.length):dH L c cZ=match own (get L c).own cZ with
 | some xt=>some (xt,(c:Int))
 | none=>dH L (get L c).cE cZ:=by rw[kT L h c cZ hc,rZ] <;> rfl
theorem EL(L:List dr)(h:Ok L)(c:Nat)(o cZ:Int)(hc:c<L.length)(ho:(c:Int)≠o):jA L c o cZ=match own (get L c).own cZ with
 | some _=>false
 | none=>jA L (get L c).cE o cZ:=by rw[wZ L h c o cZ hc ho,rZ] <;> rfl
theorem Jx(L:List dr)(h:Ok L)(c:Nat)(all:List Int)(hc:c<L.length):jn L c all=jn L (get L c).cE (jH all (get L c).own):=by
 rw[uy L h c all hc,rZ]
theorem lx(L:List dr)(h:Ok L)(c:Nat)(hc:c<L.length) : -1<=(get L c).cE/\(get L c).cE<c:=by
 have:=h c hc
 rwa [rZ]at this
theorem xd(L:List dr)(h:Ok L){P:Int->Prop}(h0:P (-1))(hs:∀ c:Nat,c<L.length->P (get L c).cE->P c)(c:Int)(c0 : -1<=c)(hc:c<L.length):P c:=by
 by_cases hn:c = -1
 . rw[hn];exact h0
 . obtain⟨k,rfl⟩:∃ k:Nat,c=k:=⟨c.toNat,by omega⟩
   induction k using Nat.strongRecOn with
   | _ k ih =>
    refine hs k (by omega) ?_
    have hp:=lx L h k (by omega)
    by_cases hn':(get L k).cE = -1
    . rw[hn'];exact h0
    . have:=ih (get L k).cE.toNat (by omega) (by omega) (by omega) (by omega)
      rwa [show(((get L k).cE.toNat:Nat):Int)=(get L k).cE by omega]at this
theorem Cz(L:List dr)(h:Ok L)(cZ:Int)(c:Int)(c0 : -1<=c)(hc:c<L.length):∀ p,dH L c cZ=some p->0<=p.2/\p.2<=c:=by
 refine xd L h (P:=fun c=>∀ p,dH L c cZ=some p->0<=p.2/\p.2<=c) ?_ ?_ c c0 hc
 . intro p hp
   rw[gD L (-1) cZ (by omega)]at hp
   cases hp
 . intro k hk ih p hp
   have:=lx L h k hk;rw[lu L h k cZ hk]at hp
   cases ho:own (get L k).own cZ with
   | some xt=>rw[ho]at hp;cases hp;simp only;omega
   | none =>
    rw[ho]at hp;have:=ih p hp;omega
theorem CA(l:List (Int × Int))(all:List Int)(s:Int):s ∈ jH all l ↔ s ∈ all\/(own l s).isSome=true:=by
 induction l generalizing all with
 | nil=>simp[jH,own]
 | cons p l ih =>
  rw[jH,ih,own];by_cases hm:p.1 ∈ all
  . rw[if_pos hm]
    by_cases hp:p.1=s
    . rw[if_pos hp];subst hp;simp[hm]
    . rw[if_neg hp]
  . rw[if_neg hm]
    by_cases hp:p.1=s
    . rw[if_pos hp];subst hp;simp
    . rw[if_neg hp]
      simp only[List.mem_append,List.mem_singleton]
      constructor
      . rintro ((h | h) | h)
        . exact .inl h
        . exact absurd h.symm hp
        . exact .inr h
      . rintro (h | h)
        . exact .inl (.inl h)
        . exact .inr h
theorem yz(l:List (Int × Int))(all:List Int)(h:all.Nodup):(jH all l).Nodup:=by
 induction l generalizing all with
 | nil=>exact h
 | cons p l ih =>
  rw[jH];apply ih
  split
  . exact h
  . rename_i hm
    rw[List.nodup_append];refine⟨h,by simp,?_⟩
    intro a ha b hb;rw[List.mem_singleton]at hb;subst hb;intro e;subst e;exact hm ha
theorem uB(L:List dr)(h:Ok L)(c:Int)(c0 : -1<=c)(hc:c<L.length):∀ all:List Int,all.Nodup->(jn L c all).Nodup/\∀ s,s ∈ jn L c all ↔ s ∈ all\/(dH L c s).isSome=true:=by
 refine xd L h (P:=fun c=>∀ all:List Int,all.Nodup->(jn L c all).Nodup/\∀ s,s ∈ jn L c all ↔ s ∈ all\/(dH L c s).isSome=true) ?_ ?_ c c0 hc
 . intro all ha
   rw[xa L (-1) all (by omega)]
   refine⟨ha,fun s=>?_⟩
   rw[gD L (-1) s (by omega)]
   simp
 . intro k hk ih all ha
   rw[Jx L h k all hk];obtain⟨h1,h2⟩:=ih _ (yz (get L k).own all ha);refine⟨h1,fun s=>?_⟩
   rw[h2,CA,lu L h k s hk]
   cases ho:own (get L k).own s with
   | some x=>simp
   | none=>simp
theorem qP:∀ {a b:List Int},a.Nodup->(∀ s ∈ a,s ∈ b)->a.length<=b.length
 | [],_,_,_=>by simp
 | x :: a,b,h,hs=>by
  rw[List.nodup_cons]at h
  have:=qP (a:=a) (b:=b.erase x) h.2 (fun s hm=>by
   have h1:=hs s (by simp[hm])
   have h2:s≠x:=by intro e;subst e;exact h.1 hm
   exact(List.mem_erase_of_ne h2).2 h1)
  have hx:=hs x (by simp)
  rw[List.length_erase_of_mem hx]at this;have:=List.length_pos_of_mem hx;rw[List.length_cons];omega
theorem Gu{a b:List Int}(ha:a.Nodup)(hb:b.Nodup)(h:∀ s,s ∈ a ↔ s ∈ b):a.length=b.length :=
 Nat.le_antisymm (qP ha (fun s hs=>(h s).1 hs)) (qP hb (fun s hs=>(h s).2 hs))
theorem Oa(l:List (Int × Int))(cZ xt s:Int):own (l.filter (fun p=>p.1≠cZ)++[(cZ,xt)]) s=if s=cZ then some xt else own l s:=by
 induction l with
 | nil =>
  show own [(cZ,xt)] s=_
  unfold own own;by_cases h:s=cZ
  . rw[if_pos h,if_pos h.symm]
  . rw[if_neg h,if_neg (fun e=>h e.symm)]
 | cons p l ih =>
  rw[List.filter_cons];by_cases hp:p.1=cZ
  . rw[if_neg (by simp[hp]),ih]
    by_cases h:s=cZ
    . rw[if_pos h,if_pos h]
    . rw[if_neg h,if_neg h,own,if_neg (by omega)]
  . rw[if_pos (by simp[hp]),List.cons_append,own,ih,own]
    by_cases h:s=cZ
    . rw[if_pos h,if_pos h,if_neg (by omega)]
    . rw[if_neg h,if_neg h]
theorem gF(L:List dr)(c:Nat)(cZ xt:Int):(put L c cZ xt).length=L.length:=by unfold put;rw[List.length_set]
theorem nG(L:List dr)(c:Nat)(cZ xt:Int)(_hc:c<L.length)(i:Nat)(hi:i<L.length):get (put L c cZ xt) i=if i=c then { get L c with own:=(get L c).own.filter (fun p=>p.1≠cZ)++[(cZ,xt)] } else get L i:=by
 rw[get_at _ i (by rw[gF];exact hi),get_at L i hi]
 unfold put;rw[List.getElem_set];by_cases h:i=c
 . rw[if_pos h,if_pos h.symm]
 . rw[if_neg h,if_neg (fun e=>h e.symm)]
theorem fO(L:List dr)(c:Nat)(cZ xt:Int)(hc:c<L.length)(i:Nat)(hi:i<L.length):(get (put L c cZ xt) i).cE=(get L i).cE/\(get (put L c cZ xt) i).cy=(get L i).cy/\(get (put L c cZ xt) i).size=(get L i).size:=by
 rw[nG L c cZ xt hc i hi];split
 . rename_i h;subst h;exact⟨rfl,rfl,rfl⟩
 . exact⟨rfl,rfl,rfl⟩
theorem uk(L:List dr)(h:Ok L)(c:Nat)(cZ xt:Int)(hc:c<L.length):Ok (put L c cZ xt):=by
 intro i hi;have hi':i<L.length:=by rwa [gF]at hi
 rw[rZ,(fO L c cZ xt hc i hi').1];exact lx L h i hi'
theorem Jy(L:List dr)(h:Ok L)(c:Nat)(cZ xt:Int)(hc:c<L.length)(s:Int)(i:Int)(i0 : -1<=i)(hi:i<L.length) :
 dH (put L c cZ xt) i s=if s=cZ/\jA L i c cZ=true then some (xt,(c:Int))else dH L i s:=by
 refine xd L h (P:=fun i=>dH (put L c cZ xt) i s=if s=cZ/\jA L i c cZ=true then some (xt,(c:Int))else dH L i s) ?_ ?_ i i0 hi
 . rw[gD _ (-1) s (by omega),gD _ (-1) s (by omega),lj L (-1) c cZ (.inl (by omega)),decide_eq_false (by omega)]
   simp
 . intro k hk ih
   rw[lu _ (uk L h c cZ xt hc) k s (by rw[gF];exact hk),(fO L c cZ xt hc k hk).1,nG L c cZ xt hc k hk,lu L h k s hk]
   by_cases hkc:k=c
   . subst hkc
     rw[if_pos rfl];simp only
     rw[Oa,lj L k k cZ (.inr rfl),decide_eq_true rfl];by_cases hs:s=cZ
     . subst hs;simp
     . rw[if_neg hs,if_neg (fun e=>hs e.1)]
       rw[if_neg (fun e=>hs e.1)]at ih
       rw[ih]
   . rw[if_neg hkc,EL L h k c cZ hk (by omega),ih]
     by_cases hs:s=cZ
     . subst hs
       cases ho:own (get L k).own s with
       | some x=>simp
       | none=>simp
     . rw[if_neg (fun e=>hs e.1),if_neg (fun e=>hs e.1)]
theorem mL(L:List dr)(x:dr)(i:Nat)(hi:i<L.length):get (L++[x]) i=get L i:=by
 rw[get_at _ i (by simp;omega),get_at L i hi,List.getElem_append_left hi]
theorem jI(L:List dr)(x:dr):get (L++[x]) (L.length:Nat)=x:=by
 rw[get_at _ L.length (by simp)]
 simp
theorem yA(L:List dr)(h:Ok L)(x:dr)(hx : -1<=x.cE/\x.cE<L.length):Ok (L++[x]):=by
 intro i hi;rw[rZ];by_cases hl:i<L.length
 . rw[mL L x i hl];exact lx L h i hl
 . rw[List.length_append,List.length_singleton]at hi
   have:i=L.length:=by omega
   subst this;rw[jI];exact hx
theorem xe(L:List dr)(h:Ok L)(x:dr)(hx : -1<=x.cE/\x.cE<L.length)(s:Int)(i:Int)(i0 : -1<=i)(hi:i<L.length):dH (L++[x]) i s=dH L i s:=by
 refine xd L h (P:=fun i=>dH (L++[x]) i s=dH L i s) ?_ ?_ i i0 hi
 . rw[gD _ (-1) s (by omega),gD _ (-1) s (by omega)]
 . intro k hk ih
   rw[lu _ (yA L h x hx) k s (by simp;omega),lu L h k s hk,mL L x k hk,ih]
theorem uC(L:List dr)(h:Ok L)(x:dr)(hx : -1<=x.cE/\x.cE<L.length)(ho:x.own=[])(s:Int):dH (L++[x]) (L.length:Nat) s=dH L x.cE s:=by
 rw[lu _ (yA L h x hx) L.length s (by simp),jI,ho]
 exact xe L h x hx s _ hx.1 hx.2
end Ref
namespace Class
def dG(A:List Int)(i:Nat):Int:=A.getD i 0
def iq(A:List Int)(k:Int):Int:=if k<0 then 0 else dG A k.toNat
def gd(A:List Int)(i:Nat):Int:=if i=0 then 0 else dG A (i-1)
theorem mM(A:List Int)(a:Int)(i:Nat)(h:i<A.length):dG (A++[a]) i=dG A i:=by
 unfold dG;rw[List.getD_eq_getElem?_getD,List.getD_eq_getElem?_getD,List.getElem?_append_left h]
theorem ly(A:List Int)(a:Int):dG (A++[a]) A.length=a:=by
 unfold dG;rw[List.getD_eq_getElem?_getD];simp
structure Good(m:Mem)(root:Int)(A T:List Int)(L:List dr)(hi:Int):Prop where
 nA:A.length=L.length
 nT:T.length=L.length
 uD:Ref.Ok L
 cy:∀ i:Nat,i<L.length->1<=(Ref.get L i).cy/\(Ref.get L i).cy<=1024
 rt:0<root/\root % 8=0/\root+8<=hi
 uE:hi<=m.size/\m.size<=1048576
 zY:∀ i:Nat,i<L.length->dG T i % 8=0/\root+8<=dG T i/\dG T i+(2+(Ref.get L i).cy*3)*8<=dG A i/\dG A i % 8=0/\dG A i+40<=hi
 eE:∀ i j:Nat,i<j->j<L.length->dG A i+40<=dG T j
 ea:m.cell root=(gd A L.length,0)
 cells:∀ i:Nat,i<L.length->m.cell (dG A i)=(j9,0)/\m.cell (dG A i+8)=(iq A (Ref.get L i).cE,0)/\m.cell (dG A i+16)=((Ref.get L i).size,0)/\m.cell (dG A i+24)=(dG T i,0)/\m.cell (dG A i+32)=(gd A i,0)
 yB:∀ i:Nat,i<L.length->dj.mI m (dG T i) (Ref.get L i).cy
 sS:∀ i:Nat,i<L.length->∀ s,dj.look m (dG T i) s=(Ref.dH L i s).map fun p=>⟨s,p.1,iq A p.2⟩
def jr(A T:List Int)(L:List dr)(i:Nat):gJ:=⟨dG A i,iq A (Ref.get L i).cE,(Ref.get L i).size,dG T i,gd A i⟩
namespace Good
variable {m:Mem} {root:Int} {A T:List Int} {L:List dr} {hi:Int}
theorem pos(h:Good m root A T L hi){i:Nat}(i1:i<L.length):root+8+40<=dG A i/\dG A i<m.size:=by
 have h1:=h.zY i i1;have h2:=h.cy i i1;have h3:=h.uE;omega
theorem CB(h:Good m root A T L hi){i j:Nat}(hij:i<j)(j1:j<L.length):dG A i+40<=dG T j/\dG A i<dG A j:=by
 have h1:=h.eE i j hij j1;have h2:=h.zY j j1;have h3:=h.cy j j1;omega
theorem inj(h:Good m root A T L hi){i j:Nat}(i1:i<L.length)(j1:j<L.length)(e:dG A i=dG A j):i=j:=by
 by_cases h1:i<j
 . have:=h.CB h1 j1;omega
 . by_cases h2:j<i
   . have:=h.CB h2 i1;omega
   . omega
theorem iw(k:Nat):iq A (k:Int)=dG A k:=by
 unfold iq;rw[if_neg (by omega)]
 rfl
theorem cT(h:Good m root A T L hi){i:Nat}(i1:i<L.length):Class.cT m (dG A i)=(jr A T L i,true):=by
 obtain⟨c0,c1,c2,c3,c4⟩:=h.cells i i1;unfold Class.cT;rw[c0,c1,c2,c3,c4];rfl
theorem dH(h:Good m root A T L hi){i:Nat}(i1:i<L.length)(ea:Int)(hl:dG A i<ea):Class.dH m (dG A i) ea=((List.range (i+1)).map (jr A T L)).reverse:=by
 induction i generalizing ea with
 | zero =>
  have hp:=h.pos i1;have hr:=h.rt;rw[kT m _ _ ⟨by omega,hl⟩ (by rw[h.cT i1]),h.cT i1]
  show _ :: Class.dH m (gd A 0) _=_
  rw[show gd A 0=0 from rfl,uq _ _ _ (by omega)]
  rfl
 | succ i ih =>
  have hp:=h.pos i1;have hr:=h.rt;rw[kT m _ _ ⟨by omega,hl⟩ (by rw[h.cT i1]),h.cT i1]
  show jr A T L (i+1) :: Class.dH m (dG A i) (dG A (i+1))=_
  rw[ih (by omega) _ (h.CB (Nat.lt_succ_self i) i1).2,List.range_succ (n:=i+1),List.map_append,List.reverse_append]
  rfl
theorem all(h:Good m root A T L hi):Class.all m root=(List.range L.length).map (jr A T L):=by
 unfold Class.all;rw[h.ea,if_pos rfl];simp only
 obtain⟨n,hn⟩:∃ n,L.length=n:=⟨_,rfl⟩;rw[hn]
 cases n with
 | zero =>
  rw[show gd A 0=0 from rfl,uq _ _ _ (by omega)]
  rfl
 | succ n =>
  show(Class.dH m (dG A n) m.size).reverse=_
  rw[h.dH (by omega) _ (h.pos (by omega)).2,List.reverse_reverse]
theorem is(h:Good m root A T L hi){i:Nat}(i1:i<L.length):Class.is m root (dG A i)=true:=by
 unfold Class.is;rw[h.all,List.any_eq_true];exact⟨jr A T L i,List.mem_map.2 ⟨i,List.mem_range.2 i1,rfl⟩,decide_eq_true rfl⟩
theorem lookup(h:Good m root A T L hi){i:Nat}(i1:i<L.length)(s:Int):(Class.lookup m (dG A i) s).2.2=(Ref.dH L i s).isSome/\∀ p,Ref.dH L i s=some p->(Class.lookup m (dG A i) s).1=⟨s,p.1,iq A p.2⟩:=by
 unfold Class.lookup;rw[h.cT i1,if_neg (by simp)]
 have ha:=h.sS i i1 s;refine⟨?_,fun p hp=>?_⟩
 . show(dj.get m (dG T i) s).2.2=_
   rw[dj.zX,ha,Option.isSome_map]
 . exact dj.uz (by rw[show(jr A T L i).table=dG T i from rfl,ha,hp];rfl)
theorem owns(h:Good m root A T L hi){i:Nat}(i1:i<L.length)(s:Int):((dj.get m (dG T i) s).2.2=true/\(dj.get m (dG T i) s).1.j7=dG A i) ↔ (Ref.own (Ref.get L i).own s).isSome=true:=by
 have ha:=h.sS i i1 s;rw[Ref.lu L h.uD i s i1]at ha;rw[dj.zX]
 cases ho:Ref.own (Ref.get L i).own s with
 | some x =>
  rw[ho]at ha;simp only[Option.map_some]at ha
  rw[ha,dj.uz ha,iw];simp
 | none =>
  rw[ho]at ha;simp only at ha
  rw[ha]
  cases hw:Ref.dH L (Ref.get L i).cE s with
  | none=>simp
  | some p =>
   have hp:=Ref.lx L h.uD i i1;have:=Ref.Cz L h.uD s (Ref.get L i).cE (by omega) (by omega) p hw
   rw[hw]at ha;rw[dj.uz ha];simp only[Option.map_some,Option.isSome_some,true_and,Option.isSome_none,Bool.false_eq_true,iff_false]
   intro e;obtain⟨k,hk⟩:∃ k:Nat,p.2=k:=⟨p.2.toNat,by omega⟩
   rw[hk,iw]at e;have:=h.inj (by omega) i1 e
   omega
theorem CD(h:Good m root A T L hi){c:Nat}(hc:c<L.length)(cZ:Int)(k i:Nat)(hik:i+k=L.length)(seen:List Int)
 (hs:∀ v,v ∈ seen ↔ ∃ j:Nat,j<i/\v=dG A j/\Ref.jA L j c cZ=true) :
 km m (dG A c) cZ ((List.range' i k).map (jr A T L)) seen=((List.range' i k).filter (fun j:Nat=>Ref.jA L j c cZ)).map (jr A T L):=by
 induction k generalizing i seen with
 | zero=>rfl
 | succ k ih =>
  have i1:i<L.length:=by omega
  rw[List.range'_succ,List.map_cons,km,List.filter_cons];have hp:=Ref.lx L h.uD i i1
  have key:((jr A T L i).cM=dG A c\/((jr A T L i).cE ∈ seen/\¬ ((dj.get m (jr A T L i).table cZ).2.2=true/\(dj.get m (jr A T L i).table cZ).1.j7=(jr A T L i).cM))) ↔ Ref.jA L i c cZ=true:=by
   show(dG A i=dG A c\/(iq A (Ref.get L i).cE ∈ seen/\¬ ((dj.get m (dG T i) cZ).2.2=true/\(dj.get m (dG T i) cZ).1.j7=dG A i))) ↔ _
   rw[h.owns i1 cZ];by_cases hic:i=c
   . subst hic
     rw[Ref.lj L i i cZ (.inr rfl),decide_eq_true rfl];simp
   . rw[Ref.EL L h.uD i c cZ i1 (by omega)]
     have hne:¬ dG A i=dG A c:=fun e=>hic (h.inj i1 hc e)
     cases ho:Ref.own (Ref.get L i).own cZ with
     | some x=>simp[hne]
     | none =>
      simp only[hne,false_or,Option.isSome_none,Bool.false_eq_true,not_false_eq_true,and_true]
      rw[hs];by_cases hneg:(Ref.get L i).cE<0
      . rw[Ref.lj L _ c cZ (.inl hneg),decide_eq_false (by omega)]
        simp only[Bool.false_eq_true,iff_false]
        rintro⟨j,hj,e,_⟩;unfold iq at e;rw[if_pos hneg]at e;have:=h.pos (i:=j) (by omega)
        have:=h.rt;omega
      . obtain⟨q,hq⟩:∃ q:Nat,(Ref.get L i).cE=q:=⟨(Ref.get L i).cE.toNat,by omega⟩
        rw[hq,iw];constructor
        . rintro⟨j,hj,e,hh⟩
          rw[h.inj (by omega) (by omega) e]
          exact hh
        . intro hh
          exact⟨q,by omega,rfl,hh⟩
  by_cases hh:Ref.jA L i c cZ=true
  . rw[if_pos (key.2 hh),if_pos hh,List.map_cons]
    congr 1
    refine ih (i+1) (by omega) _ fun v=>?_
    rw[List.mem_cons,hs];constructor
    . rintro (e | ⟨j,hj,e,hq⟩)
      . exact⟨i,by omega,e,hh⟩
      . exact⟨j,by omega,e,hq⟩
    . rintro⟨j,hj,e,hq⟩
      by_cases hji:j=i
      . subst hji;exact .inl e
      . exact .inr ⟨j,by omega,e,hq⟩
  . rw[if_neg (fun e=>hh (key.1 e)),if_neg hh]
    refine ih (i+1) (by omega) _ fun v=>?_
    rw[hs];constructor
    . rintro⟨j,hj,e,hq⟩
      exact⟨j,by omega,e,hq⟩
    . rintro⟨j,hj,e,hq⟩
      by_cases hji:j=i
      . subst hji;exact absurd hq hh
      . exact⟨j,by omega,e,hq⟩
theorem lh(h:Good m root A T L hi){c:Nat}(hc:c<L.length)(cZ:Int):Class.lh m root (dG A c) cZ=((List.range L.length).filter (fun j:Nat=>Ref.jA L j c cZ)).map (jr A T L):=by
 unfold Class.lh;rw[h.all,List.range_eq_range'];exact h.CD hc cZ L.length 0 (by omega) [] (fun v=>⟨fun e=>absurd e (by simp),fun⟨j,hj,_⟩=>absurd hj (by omega)⟩)
end Good
end Class
end Go.Proofs.dS
