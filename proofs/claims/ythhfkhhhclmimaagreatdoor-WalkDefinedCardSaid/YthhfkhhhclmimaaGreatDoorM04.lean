/- A part of WalkG. No condition. -/
import Derived.Test.YthhfkhhhclmimaaGreatDoorM03
import Derived.Test.YthhfkhhhclmimaaGreatDoorM01
import Derived.Test.YthhfkhhhclmimaaGreatDoorProg
set_option linter.unusedVariables false
set_option linter.unusedSimpArgs false
open Go.Proofs.Tryz
set_option maxRecDepth 10000
namespace Go.Proofs.dS
open Go Go.RowKit Go.Proofs.K
def Mem.j'(m:Mem):Array Value:=((List.range m.size).map fun i=>Value.int .u8 (m.byte i)).toArray
theorem Mem.jc(m:Mem):m.j'.size=m.size:=by simp[Mem.j']
theorem Mem.oI(m:Mem)(i:Nat)(h:i<m.size):m.j'[i]?=some (.int .u8 (m.byte i)):=by simp[Mem.j',h]
theorem Mem.Ac(m:Mem)(i v:Nat)(g:v<256):m.j'.setIfInBounds i (.int .u8 v)=(m.put i 1 v).j':=by
 apply Array.ext
 . simp[Mem.jc,Mem.gZ]
 . intro j e f
   have a:j<m.size:=by simpa[Mem.jc] using e
   rw[Array.getElem_setIfInBounds]
   . have c:m.j'[j]'(by simpa[Mem.jc] using a)=.int .u8 (m.byte j):=by
      have:=m.oI j a;rw[Array.getElem?_eq_getElem (by simpa[Mem.jc] using a)]at this;exact Option.some.inj this
     have d:(m.put i 1 v).j'[j]=.int .u8 ((m.put i 1 v).byte j):=by
      have:=(m.put i 1 v).oI j a;rw[Array.getElem?_eq_getElem f]at this;exact Option.some.inj this
     rw[d];by_cases b:i=j
     . subst b
       rw[if_pos rfl,Mem.byte,Mem.nC];have:v % 2 ^ (8*1)=v:=by omega
       rw[this]
     . rw[if_neg b,c,Mem.byte,Mem.byte,Mem.hY _ _ _ _ _ _ (by omega)]
   . simpa[Mem.jc] using a
structure dY(w:World)(b bb:Nat)(m:Mem):Prop where
 head:w.heap[b]?=some (.cells #[.slice (some ⟨bb,0,none⟩) m.size m.size] 260 (0,0))
 rest:w.heap[bb]?=some (.cells m.j' 5 (0,0))
 ne:b≠bb
 le:m.size<=4194304
theorem dY.cell{w:World}{b a:Nat}{m:Mem}(h:dY w b a m):w.cell? ⟨b,0,none⟩=some (.slice (some ⟨a,0,none⟩) m.size m.size):=cp h.head rfl
theorem dY.byte{w:World}{b a:Nat}{m:Mem}(h:dY w b a m){i:Nat}(c:i<m.size):w.cell? ⟨a,i,none⟩=some (.int .u8 (m.byte i)):=cp h.rest (m.oI i c)
theorem dY.ct{w w':World}{b a:Nat}{m:Mem}(h:dY w b a m){S:Nat->Prop}(k:cq S w w')(c:¬ S b)(d:¬ S a):dY w' b a m:=⟨k.heap h.head c,k.heap h.rest d,h.ne,h.le⟩
theorem dY.drewN{w:World}{b a:Nat}{m:Mem}(h:dY w b a m)(n:Nat):dY (w.drewN n) b a m:=⟨h.head,h.rest,h.ne,h.le⟩
theorem dY.lt{w:World}{b a:Nat}{m:Mem}(h:dY w b a m):b<w.heap.size/\a<w.heap.size:=⟨cA h.head,cA h.rest⟩
theorem qQ{k:IntKind}{a b:Int}(h:a=b):Ending.returned (.int k a)=.returned (.int k b):=by rw[h]
theorem js(w:World)(b a:Nat)(m:Mem)(h:dY w b a m) :
 Calls prog 93 #[cD b] w fun e w'=>e=.returned (I_ m.size)/\w=w':=by
 have c:=h.cell;go_enter func93,ntmps93;go_wp2;go_ret;exact⟨rfl,rfl⟩
theorem tR(w:World)(b d:Nat)(m:Mem)(a n:Int)(h:dY w b d m) :
 Calls prog 158 #[cD b,I_ a,I_ n] w fun e w'=>e=.returned (.bool (m.has a n))/\w=w':=by
 have o:=h.le;have c:Hid (m.has a n=(decide (0<=n) && decide (0<=a) && decide (n<=m.size) && decide (a<=m.size-n))):=rfl;generalize m.has a n=r at c |-;by_cases f:0<=n
 . by_cases g:0<=a
   . by_cases i:n<=m.size
     . go_enter func158,ntmps158
       go_wp2_with fail;refine eD (js _ _ _ _ h) ?_;go_wp2_with fail;refine eD (js _ _ _ _ h) ?_;go_wp2;go_ret;refine⟨?_,rfl⟩;rw[c.out];simp[f,g,i]
     . have l:(m.size:Int)<n:=by omega
       go_enter func158,ntmps158;go_wp2_with fail;refine eD (js _ _ _ _ h) ?_;go_wp2;go_ret;refine⟨?_,rfl⟩;rw[c.out];simp;omega
   . have k:a<0:=by omega
     go_enter func158,ntmps158;go_wp2;go_ret;refine⟨?_,rfl⟩;rw[c.out];simp;omega
 . have j:n<0:=by omega
   go_enter func158,ntmps158;go_wp2;go_ret;refine⟨?_,rfl⟩;rw[c.out];simp;omega
theorem JD(w:World)(b i:Nat)(m:Mem)(a:Int)(h:dY w b i m) :
 Calls prog 146 #[cD b,I_ a] w fun e w'=>e=.returned (I_ (m.cM a))/\w=w':=by
 have c:Hid (m.cM a=if m.has a 8 then(if a % 8=0 then 0 else -23)else -9):=rfl;have g:=m.eI a 8;have f:=fun w h=>tR w b i m a 8 h;generalize m.cM a=r at c |-;generalize m.has a 8=q at f g c;cases q with
 | false =>
  go_enter func146,ntmps146;go_wp2_with fail;refine eD (f _ h) ?_;go_wp2;go_ret;exact⟨qQ (by rw[c.out];rfl),rfl⟩
 | true =>
  have k:0<=a:=by have:=g.1 rfl;omega
  go_enter func146,ntmps146;go_wp2_with fail;refine eD (f _ h) ?_;by_cases d:a % 8=0
  . have j:(a % 8 != 0)=false:=by simp[d]
    go_wp2;go_ret;exact⟨qQ (by rw[c.out];simp[d]),rfl⟩
  . have j:(a % 8 != 0)=true:=by simp[d]
    go_wp2;go_ret;exact⟨qQ (by rw[c.out];simp[d]),rfl⟩
theorem Gx(m:Mem)(a k:Nat)(g:k<8):bits .or .u64 (m.get a k:Int) (IntKind.u64.wrap (IntKind.u64.wrap (m.byte (a+k):Int)*2 ^ (8*k)))=(m.get a (k+1):Nat):=by
 have b:=m.yu (a+k);have c:m.byte (a+k)*2 ^ (8*k)<2 ^ 64:=by
  have:2 ^ (8*k)<=2 ^ 56:=Nat.pow_le_pow_right (by omega) (by omega)
  calc m.byte (a+k)*2 ^ (8*k)<=255*2 ^ 56:=Nat.mul_le_mul (by omega) this
   _<2 ^ 64:=by decide
 have d:=m.lf a k;have f:(2:Nat) ^ (8*k)<=2 ^ 56:=Nat.pow_le_pow_right (by omega) (by omega);rw[IntWalk.u64_in (m.byte (a+k):Int) (by omega)];have e:((m.byte (a+k):Nat):Int)*2 ^ (8*k)=((m.byte (a+k)*2 ^ (8*k):Nat):Int):=by
  rw[Int.natCast_mul,Int.natCast_pow];rfl
 rw[e,IntWalk.u64_in _ (by omega),bits_or_u64_nat _ _ (by omega) (by omega),Mem.Jm,Nat.shiftLeft_eq]
theorem Ad(u:Nat)(h:u<18446744073709551616):wrap64 (u:Int)=zM u:=by
 unfold wrap64 zM;split <;> omega
theorem eu(w:World)(b l:Nat)(m:Mem)(a:Int)(h:dY w b l m) :
 Calls prog 81 #[cD b,I_ a] w fun e w'=>e=.returned (.tuple #[I_ (m.cell a).1,I_ (m.cell a).2])/\w=w':=by
 have A:=h.cell;have C:=h.le;have o:=fun w h=>JD w b l m a h;have d:Hid (m.cell a=if m.cM a=0 then(zM (m.get a.toNat 8),0)else(0,m.cM a)):=rfl;have j:=m.dX a;have s:=m.zO a;generalize m.cM a=q at o d j s;generalize m.cell a=r at d |-;obtain⟨t,p⟩:=r;by_cases f:q=0
 . obtain⟨E,F,G⟩:=j.1 f
   obtain⟨c,rfl⟩:∃ c:Nat,a=c:=⟨a.toNat,by omega⟩;have g:(t,p)=(zM (m.get c 8),0):=by rw[d.out,if_pos f];rfl
   obtain⟨rfl,rfl⟩:=Prod.mk.inj g;subst f;clear d j s g;go_enter func81,ntmps81;go_wp2_with fail;refine eD (o _ h) ?_;have x:(c:Int)+8<=m.size:=by omega
   go_wp2_with fail
   go_loop [7,25] (fun n i=>∃ k:Nat,k<=8/\i=I_ k/\n=.int .u64 (m.get c k:Nat)) (fun _ i=>8-(intOf i).toNat)
   case atStart=>exact⟨0,Nat.zero_le _,rfl,by rw[Mem.ug];rfl⟩
   case round =>
    obtain⟨k,B,rfl,rfl⟩:=hrel;by_cases v:k<8
    . have y:C_ w l (c+k)=some (.int .u8 (m.byte (c+k))):=h.byte (by omega)
      have z:(k:Int)<8:=by omega
      go_wp2_with fail
      go_round
      case rel=>exact⟨k+1,by omega,by go_num,by rw[Gx m c k v]⟩
      case measure=>simp[intOf];omega
    . have u:k=8:=by omega
      subst u;go_wp2;go_ret2;refine⟨?_,rfl⟩;show Ending.returned (.tuple #[I_ (wrap64 _),I_ 0])=_;rw[Ad _ (by have:=m.lf c 8;simpa using this)]
 . have g:(t,p)=(0,q):=by rw[d.out,if_neg f]
   obtain⟨rfl,rfl⟩:=Prod.mk.inj g;have D:(p != 0)=true:=by simp[f]
   go_enter func81,ntmps81;go_wp2_with fail;refine eD (o _ h) ?_;go_wp2;go_ret2;exact⟨rfl,rfl⟩
theorem dY.JG{w:World}{b a:Nat}{m:Mem}(h:dY w b a m)(i v:Nat)(c:v<256):dY (w.setCell ⟨a,i,none⟩ (.int .u8 v)) b a (m.put i 1 v) :=
 ⟨(Below.heap_setCell _ _ _ _ h.ne).trans h.head,by rw[<- Mem.Ac m i v c];exact cz h.rest _,h.ne,h.le⟩
theorem Q9(n:Int)(k:Nat):IntKind.u64.wrap n / 2 ^ (8*k) % 256=(((u64 n >>> (8*k)) % 256:Nat):Int):=by
 have a:((u64 n:Nat):Int)=n % 18446744073709551616:=by unfold u64;omega
 rw[IntKind.wrap_u64,<- a,Nat.shiftRight_eq_div_pow];norm_cast
theorem Mem.tS(m:Mem)(a n v:Nat):m.put a n (v % 2 ^ (8*n))=m.put a n v:=by
 unfold Mem.put;rw[Nat.mod_mod]
def gV(b bb:Nat)(r:Mem × Int)(w:World)(e:Ending)(w':World):Prop :=
 e=.returned (I_ r.2)/\dY w' b bb r.1/\cq (fun k=>k=bb) w w'
theorem ed(w:World)(b d:Nat)(m:Mem)(a n:Int)(h:dY w b d m) :
 Calls prog 85 #[cD b,I_ a,I_ n] w (gV b d (m.setCell a n) w):=by
 have K:=h.le;have o:=fun w h=>JD w b d m a h;have f:Hid (m.setCell a n=if m.cM a=0 then(m.put a.toNat 8 (u64 n),0)else(m,m.cM a)):=rfl;have l:=m.dX a;have t:=m.zO a;generalize m.cM a=q at o f l t;generalize m.setCell a n=r at f |-;by_cases g:q=0
 . obtain⟨N,O,P⟩:=l.1 g
   obtain⟨c,rfl⟩:∃ c:Nat,a=c:=⟨a.toNat,by omega⟩;have p:r=(m.put c 8 (u64 n),0):=by rw[f.out,if_pos g];rfl
   subst g;subst p;clear f l t;have I:=h.cell;go_enter func85,ntmps85;go_wp2_with fail;refine eD (o _ h) ?_;have x:(c:Int)+8<=m.size:=by omega
   go_wp2_with fail
   go_loopw [24] (fun i wr=>∃ k:Nat,k<=8/\i=I_ k/\dY wr b d (m.put c k (u64 n))/\cq (fun k=>k=d) w wr) (fun i _=>8-(intOf i).toNat)
   case atStart=>exact⟨0,Nat.zero_le _,rfl,by rw[Mem.qL];exact h,cq.refl _ _⟩
   case round =>
    obtain⟨k,J,rfl,e,s⟩:=hrel;by_cases L:k<8
    . have y:C_ wr b 0=some (.slice (some ⟨d,0,none⟩) m.size m.size):=e.cell
      have z:C_ wr d (c+k)=some (.int .u8 ((m.put c k (u64 n)).byte (c+k))):=e.byte (by rw[Mem.gZ];omega);have H:wr.frozen? ⟨d,c+k,none⟩=false:=cB e.rest;have A:(k:Int)<8:=by omega
      have B:(0:Int)<=k:=by omega
      have C:(c:Int)+k<m.size:=by omega
      have D:(0:Int)<=(c:Int)+k:=by omega
      have E:IntKind.i64.wrap ((c:Int)+k)=(c:Int)+k:=IntWalk.i64_in _ (by omega);have F:IntKind.i64.wrap (8*(k:Int))=8*(k:Int):=IntWalk.i64_in _ (by omega);have G:((c:Int)+k).toNat=c+k:=by omega
      go_wp2_with fail;go_region
      have j:=e.JG (c+k) ((u64 n >>> (8*k)) % 256) (Nat.mod_lt _ (by decide));rw[<- Q9,show(u64 n >>> (8*k)) % 256=(u64 n >>> (8*k)) % 2 ^ (8*1) from rfl,Mem.tS,<- Mem.uh]at j;have u:Hid (cq (fun k=>k=d) w (wr.setCell ⟨d,c+k,none⟩ (.int .u8 (IntKind.u64.wrap n / 2 ^ (8*k) % 256)))):=s.trans (cq.setCell _ _ _ (fun _=>rfl));clear s e;go_wp2;go_roundw;case rel=>exact⟨k+1,by omega,by go_num,⟨j.head,j.rest,j.ne,j.le⟩,u.out.trans (cq.drew _ _)⟩
      case measure=>simp[intOf];omega
    . have v:k=8:=by omega
      subst v;go_wp2;go_ret;exact⟨rfl,e,s⟩
 . have p:r=(m,q):=by rw[f.out,if_neg g]
   subst p;have M:(q != 0)=true:=by simp[g]
   go_enter func85,ntmps85;go_wp2_with fail;refine eD (o _ h) ?_;go_wp2;go_ret;exact⟨rfl,h,cq.refl _ _⟩
theorem Td(n:Int):(((u64 n) % 256:Nat):Int)=n % 256:=by unfold u64;omega
theorem Ae(w:World)(b d:Nat)(m:Mem)(a n:Int)(h:dY w b d m) :
 Calls prog 329 #[cD b,I_ a,I_ n] w (gV b d (m.Yo a n) w):=by
 have H:=h_ h;have A:=h.le;have z:=h.cell;have g:=fun i=>cB (i:=i) h.rest;have e:=fun i t=>h.byte (i:=i) t;clear h;have c:Hid (m.Yo a n=if m.has a 1 then(m.put a.toNat 1 (u64 n),0)else(m,-9)):=rfl;have f:=fun w H=>tR w b d m a 1 H;have o:=h_ (m.eI a 1);generalize m.has a 1=q at f o c;have l:=h_ f;clear f;generalize m.Yo a n=r at c |-;cases q with
 | false =>
  have j:r=(m,-9):=c.out;subst j;clear c e g;go_enter func329,ntmps329;go_wp2_with fail;refine eD (l.out _ H.out) ?_;go_wp2;go_ret;exact⟨rfl,H.out,cq.refl _ _⟩
 | true =>
  have s:=o.out.1 rfl;obtain⟨k,rfl⟩:∃ k:Nat,a=k:=⟨a.toNat,by omega⟩;have j:r=(m.put k 1 (u64 n),0):=c.out;subst j;have x:=e k (by omega);have y:=g k;have u:(k:Int)<m.size:=by omega
  have v:(0:Int)<=k:=by omega
  clear c e g s;go_enter func329,ntmps329;go_wp2_with fail;refine eD (l.out _ H.out) ?_;go_wp2;go_ret;refine⟨rfl,?_,cq.setCell _ _ _ (fun _=>rfl)⟩;have p:=H.out.JG k (u64 n % 256) (Nat.mod_lt _ (by decide));rw[Td,show u64 n % 256=u64 n % 2 ^ (8*1) from rfl,Mem.tS]at p;exact p
theorem xf(l:List UInt8)(i:Nat)(h:i<l.length):(qH l >>> (8*i)) % 256=l[i].toNat:=by
 have:=uj l.length (qH l) i (by rw[gK];exact h);rw[<- this];congr 1;have e:=ui l;exact(List.getElem_of_eq e _)
theorem Mem.Gy(m:Mem)(k:Nat)(s:List UInt8)(h:k+s.length<=m.size) :
 (m.j'.toList.take k++(s.map fun b=>Value.int .u8 b.toNat)++m.j'.toList.drop (k+s.length)).toArray=(m.put k s.length (qH s)).j':=by
 apply Array.ext';apply List.ext_getElem?;intro i;have a:∀ (m:Mem) i,i<m.size->m.j'.toList[i]?=some (.int .u8 (m.byte i)):=fun m i d=>by rw[Array.getElem?_toList];exact m.oI i d
 have g:∀ (m:Mem) i,m.size<=i->m.j'.toList[i]?=none:=fun m i d=>by rw[Array.getElem?_toList];exact Array.getElem?_eq_none (by rw[Mem.jc];exact d)
 have j:m.j'.toList.length=m.size:=by rw[Array.length_toList,Mem.jc]
 rw[List.getElem?_append,List.getElem?_append];simp only[List.length_append,List.length_take,List.length_map,j,Nat.min_eq_left (show k<=m.size by omega)];by_cases c:i<k
 . rw[if_pos (by omega),if_pos c,List.getElem?_take_of_lt c,a _ _ (by omega),a _ _ (by rw[Mem.gZ];omega)]
   rw[Mem.byte,Mem.byte,Mem.hY _ _ _ _ _ _ (by omega)]
 . by_cases e:i<k+s.length
   . rw[if_pos e,if_neg c,List.getElem?_map,List.getElem?_eq_getElem (by omega),a _ _ (by rw[Mem.gZ];omega)]
     rw[Mem.byte,Mem.p' _ _ _ _ _ _ (by omega) (by omega)];have:=xf s (i-k) (by omega);rw[show(2:Nat) ^ (8*1)=256 from rfl,this];rfl
   . rw[if_neg e,List.getElem?_drop,show k+s.length+(i-(k+s.length))=i by omega]
     by_cases f:i<m.size
     . rw[a _ _ f,a _ _ (by rw[Mem.gZ];exact f)]
       rw[Mem.byte,Mem.byte,Mem.hY _ _ _ _ _ _ (by omega)]
     . rw[g _ _ (by omega),g _ _ (by rw[Mem.gZ];omega)]
theorem oJ(w:World)(b c:Nat)(m:Mem)(a:Int)(s:List UInt8)(h:dY w b c m)(D:s.length<=9223372036854775807) :
 Calls prog 255 #[cD b,I_ a,S_ s] w (gV b c (m.cS a s) w):=by
 have H:=h_ h;have A:=h.le;have y:=h.cell;have u:=h.rest;clear h;have d:Hid (m.cS a s=if m.has a s.length then(m.put a.toNat s.length (qH s),0)else(m,-9)):=rfl;have e:=fun w H=>tR w b c m a s.length H;have l:=h_ (m.eI a s.length);generalize m.has a s.length=q at e l d;have i:=h_ e;clear e;generalize m.cS a s=r at d |-;cases q with
 | false =>
  have g:r=(m,-9):=d.out;subst g;clear d;go_enter func255,ntmps255;go_wp2_with fail;refine eD (i.out _ H.out) ?_;go_wp2;go_ret;exact⟨rfl,H.out,cq.refl _ _⟩
 | true =>
  have p:=l.out.1 rfl;obtain⟨k,rfl⟩:∃ k:Nat,a=k:=⟨a.toNat,by omega⟩;have g:r=(m.put k s.length (qH s),0):=d.out;subst g;have v:(k:Int)+s.length<=m.size:=by omega
  have x:(0:Int)<=k:=by omega
  have o:k+s.length<=m.size:=by omega
  clear d p;go_enter func255,ntmps255;go_wp2_with fail;refine eD (i.out _ H.out) ?_;by_cases f:s=[]
  . subst f
    go_wp2;go_ret;refine⟨rfl,?_,cq.refl _ _⟩;simp only[List.length_nil,Mem.qL];exact H.out
  . have B:s.isEmpty=false:=by simpa using f
    have C:=yE (P:=prog) w 143 9 3 5 c k (m.size-k) (m.size-k) ⟨s.toArray⟩ m.j' 5 underlying143 (by kernel_rfl) u (by show s.length<=_;omega) (by show k+s.length<=_;rw[Mem.jc];omega);have z:¬ m.size=k:=by have:=List.length_pos_iff.2 f;omega
    have n:Hid ((m.j'.toList.take k++((s.map fun b=>Value.int .u8 b.toNat)++m.j'.toList.drop (k+s.length))).toArray=(m.put k s.length (qH s)).j'):=by
     rw[<- List.append_assoc];exact Mem.Gy m k s o
    go_wp2;go_ret;refine⟨rfl,⟨?_,?_,H.out.ne,H.out.le⟩,⟨rfl,rfl,rfl,by simp,fun j _ t=>setRow_other w c j _ t⟩⟩
    . exact(setRow_other w c b _ H.out.ne).trans H.out.head
    . rw[<- n.out]
      exact setRow_heap w c m.j' _ _ _ H.out.rest
theorem Mem.Og(m:Mem)(k l i:Nat)(h:i<l):(m.get k l >>> (8*i)) % 256=m.byte (k+i):=by
 apply Nat.eq_of_testBit_eq;intro j;rw[show(256:Nat)=2 ^ (8*1) from rfl,Nat.testBit_mod_two_pow,Nat.testBit_shiftRight,Mem.fK,Mem.fK];by_cases a:j<8*1
 . have b:8*i+j<8*l:=by omega
   have c:8*k+(8*i+j)=8*(k+i)+j:=by omega
   simp[a,b,c]
 . simp[a]
theorem Af(m:Mem)(k l:Nat):strOfNums ((List.range l).map fun i=>(m.byte (k+i):Int))=⟨(fg l (m.get k l)).toArray⟩:=by
 apply ByteArray.ext;apply Array.ext';rw[strOfNums_data];apply List.ext_getElem
 . simp[gK]
 . intro i b a
   have c:i<l:=by simpa using b
   apply UInt8.toNat_inj.1;have e:=uj l (m.get k l) i (by simpa using a);rw[Mem.Og m k l i c]at e;simp only[List.getElem_map,List.getElem_range];have d:=m.yu (k+i);rw[show((fg l (m.get k l)).toArray.toList)[i]=(fg l (m.get k l))[i]'(by simpa using a) from rfl,e];simp;omega
def JH(l:List UInt8):Value:=S_ l
theorem uG(w:World)(b d:Nat)(m:Mem)(a n:Int)(h:dY w b d m) :
 Calls prog 92 #[cD b,I_ a,I_ n] w fun e w'=>e=.returned (.tuple #[JH (m.dJ a n).1,I_ (m.dJ a n).2])/\w=w':=by
 have H:=h_ h;have D:=h.le;have z:=h.cell;have f:=fun i j=>h.byte (i:=i) j;clear h;have c:Hid (m.dJ a n=if m.has a n then(fg n.toNat (m.get a.toNat n.toNat),0)else([],-9)):=rfl;have g:=fun w H=>tR w b d m a n H;have s:=h_ (m.eI a n);generalize m.has a n=q at g s c;have p:=h_ g;clear g;generalize m.dJ a n=r at c |-;cases q with
 | false =>
  have o:r=([],-9):=c.out;subst o;clear c f;go_enter func92,ntmps92;go_wp2_with fail;refine eD (p.out _ H.out) ?_;go_wp2;go_ret2;exact⟨rfl,rfl⟩
 | true =>
  have t:=s.out.1 rfl;obtain⟨k,rfl⟩:∃ k:Nat,a=k:=⟨a.toNat,by omega⟩;obtain⟨l,rfl⟩:∃ l:Nat,n=l:=⟨n.toNat,by omega⟩;have o:r=(fg l (m.get k l),0):=c.out;subst o;have v:(k:Int)+l<=m.size:=by omega
  have x:(0:Int)<=k:=by omega
  have y:(0:Int)<=l:=by omega
  have A:=run_convert_bytes_arg (P:=prog) w 143 5 underlying143 underlying5 d k l (m.size-k) ((List.range l).map fun i=>(m.byte (k+i):Int)) (by simp) (fun i j=>by
   rw[f (k+i) (by omega)]
   simp[List.getD_eq_getElem?_getD,j]) 9 underlying9
  clear c t f;go_enter func92,ntmps92;go_wp2_with fail;refine eD (p.out _ H.out) ?_;by_cases u:l=0
  . subst u
    go_wp2;go_ret2;exact⟨rfl,rfl⟩
  . have C:((l:Int) == 0)=false:=by simp;omega
    have B:¬ m.size=k:=by omega
    go_wp2;go_ret2;refine⟨?_,rfl⟩;show Ending.returned (.tuple #[.string _,I_ 0])=_;rw[Af];rfl
theorem xh(n:Nat):madeCells #[.int .u8 0] (n*1)=(Mem.zero n).j':=by
 unfold Mem.j' madeCells Mem.zero;apply Array.ext';simp[Mem.get];intro a _;rw[Nat.mod_one];rfl
def nI(size:Int)(w:World)(e:Ending)(w':World):Prop :=
 if Mem.kG size=0 then ∃ b bb,e=.returned (.tuple #[cD b,I_ 0])/\dY w' b bb (Mem.zero size.toNat)/\w.heap.size<=b/\w.heap.size<=bb/\K_ w w'
 else e=.returned (.tuple #[.pointer none,I_ (-256)])/\w=w'
theorem CI:(prog.info? 5).map (fun i=>(i.zero,i.size,i.bytes))=some (some (.int .u8 0),1,1):=by kernel_rfl
theorem Oh(w:World)(a:Int):Calls prog 118 #[I_ a] w (nI a w):=by
 by_cases g:0<=a/\a<=1048576/\a % 8=0
 . have d:nI a w=fun e w'=>∃ b j,e=.returned (.tuple #[cD b,I_ 0])/\dY w' b j (Mem.zero a.toNat)/\w.heap.size<=b/\w.heap.size<=j/\K_ w w':=by
    funext e w';unfold nI Mem.kG;rw[if_pos (by rw[if_pos g])]
   rw[d];obtain⟨t,c,f⟩:=g;obtain⟨k,rfl⟩:∃ k:Nat,a=k:=⟨a.toNat,by omega⟩;obtain⟨s,n,p,q,r⟩:=info_parts CI;have l:((k:Int) % 8 != 0)=false:=by simp;omega
   have i:=fun w=>run_make (P:=prog) w 143 5 s (.int .u8 0) underlying143 n p .i64 .i64 k k (by omega) (by omega) (by rw[r];omega) (by omega);rw[q]at i;simp only[Int.toNat_natCast,Value.cells,xh]at i;clear d;generalize o:(Mem.zero k).j'=V at i;go_enter func118,ntmps118;go_wp2;go_ret2;refine⟨w.heap.size+1,w.heap.size,by simp,⟨?_,?_,by omega,by show k<=_;omega⟩,by omega,by omega,(cq.alloc _ _ _).trans (cq.alloc _ _ _)⟩
   . have:=cx (w.alloc (.cells V 5)) (.cells #[.slice (some ⟨w.heap.size,0,none⟩) k k] 260)
     rw[World.size_alloc]at this;exact this
   . rw[show(Mem.zero (k:Int).toNat).j'=V from o]
     exact(dp _ _ (by simp)).trans (cx w _)
 . have d:nI a w=fun e w'=>e=.returned (.tuple #[.pointer none,I_ (-256)])/\w=w':=by
    funext e w';unfold nI Mem.kG;rw[if_neg (by rw[if_neg g];decide)]
   rw[d];have m:a<0\/(0<=a/\1048576<a)\/(0<=a/\a<=1048576/\(a % 8 != 0)=true):=by
    by_cases c:0<=a
    . by_cases f:a<=1048576
      . exact .inr (.inr ⟨c,f,by simp;omega⟩)
      . exact .inr (.inl ⟨c,by omega⟩)
    . exact .inl (by omega)
   clear g d;rcases m with h | ⟨c,f⟩ | ⟨c,f,l⟩;all_goals
    go_enter func118,ntmps118;go_wp2;go_ret2;exact⟨rfl,rfl⟩
structure gR(w:World)(s b bb:Nat)(x:Sp):Prop where
 head:w.heap[s]?=some (.cells #[cD b,I_ x.lo,I_ x.to,I_ x.cu] 84 (0,0))
 mem:dY w b bb x.mem
 yF:s≠b
 sT:s≠bb
 ok:x.Ok
theorem gR.ct{w w':World}{s b a:Nat}{x:Sp}(h:gR w s b a x){S:Nat->Prop}(k:cq S w w')(c:¬ S s)(d:¬ S b)(e:¬ S a):gR w' s b a x :=
 ⟨k.heap h.head c,h.mem.ct k d e,h.yF,h.sT,h.ok⟩
theorem gR.c0{w:World}{s b a:Nat}{x:Sp}(h:gR w s b a x):w.cell? ⟨s,0,none⟩=some (cD b):=cp h.head rfl
theorem gR.c1{w:World}{s b a:Nat}{x:Sp}(h:gR w s b a x):w.cell? ⟨s,1,none⟩=some (I_ x.lo):=cp h.head rfl
theorem gR.c2{w:World}{s b a:Nat}{x:Sp}(h:gR w s b a x):w.cell? ⟨s,2,none⟩=some (I_ x.to):=cp h.head rfl
theorem gR.c3{w:World}{s b a:Nat}{x:Sp}(h:gR w s b a x):w.cell? ⟨s,3,none⟩=some (I_ x.cu):=cp h.head rfl
theorem gR.f{w:World}{s b a:Nat}{x:Sp}(h:gR w s b a x)(i:Nat):w.frozen? ⟨s,i,none⟩=false:=cB h.head
theorem gR.bd{w:World}{s b a:Nat}{x:Sp}(h:gR w s b a x):0<=x.lo/\x.lo<=x.cu/\x.cu<=x.to/\x.to<=4194304:=by
 obtain⟨c,d,e,f⟩:=h.ok;have:=h.mem.le;exact⟨c,d,e,by omega⟩
theorem gR.dI{w w':World}{s b a:Nat}{x:Sp}(h:gR w s b a x){m:Mem}(c:dY w' b a m)(d:m.size=x.mem.size)(k:cq (fun j=>j=a) w w'):gR w' s b a { x with mem:=m } :=
 ⟨k.heap h.head h.sT,c,h.yF,h.sT,h.ok.1,h.ok.2.1,h.ok.2.2.1,by show x.to<=m.size;rw[d];exact h.ok.2.2.2⟩
theorem gR.oK{w:World}{s b a:Nat}{x:Sp}(h:gR w s b a x)(n:Int)(c:x.lo<=n)(d:n<=x.to):gR (w.setCell ⟨s,3,none⟩ (I_ n)) s b a { x with cu:=n } :=
 ⟨cz h.head _,h.mem.ct (cq.setCell (S:=fun j=>j=s) _ _ _ (fun _=>rfl)) (fun e=>h.yF e.symm) (fun e=>h.sT e.symm),h.yF,h.sT,h.ok.1,c,d,h.ok.2.2.2⟩
theorem eJ(w:World)(s b a:Nat)(x:Sp)(h:gR w s b a x) :
 Calls prog 35 #[cD s] w fun e w'=>e=.returned (I_ x.cu)/\w=w':=by
 have c:=h.c3;go_enter func35,ntmps35;go_wp2;go_ret;exact⟨rfl,rfl⟩
def iH(s b bb:Nat)(r:Sp × Int)(w:World)(e:Ending)(w':World):Prop :=
 e=.returned (I_ r.2)/\gR w' s b bb r.1/\cq (fun k=>k=s\/k=bb) w w'
theorem lB(w:World)(s b e:Nat)(x:Sp)(n:Int)(h:gR w s b e x) :
 Calls prog 256 #[cD s,I_ n] w (iH s b e (x.gA n) w):=by
 have u:=h.c1;have v:=h.c2;have y:=h.c3;have z:=h.f 3;obtain⟨o,p,q,t⟩:=h.bd;have c:Hid (x.gA n=if n > x.to-x.cu\/n<x.lo-x.cu then(x,-8)else({ x with cu:=x.cu+n },0)):=rfl;generalize x.gA n=r at c |-;have A:IntKind.i64.wrap (x.to-x.cu)=x.to-x.cu:=IntWalk.i64_in _ (by omega);have B:IntKind.i64.wrap (x.lo-x.cu)=x.lo-x.cu:=IntWalk.i64_in _ (by omega);by_cases a:n > x.to-x.cu\/n<x.lo-x.cu
 . have d:r=(x,-8):=by rw[c.out,if_pos a]
   subst d;clear c;have l:(x.to-x.cu<n)\/(n<=x.to-x.cu/\n<x.lo-x.cu):=by omega
   clear a;rcases l with a | ⟨a,m⟩
   . have g:decide (x.to-x.cu<n)=true:=by simpa using a
     go_enter func256,ntmps256;go_wp2;go_quiet (fail);go_wp2;go_ret;exact⟨rfl,⟨h.head,⟨h.mem.head,h.mem.rest,h.mem.ne,h.mem.le⟩,h.yF,h.sT,h.ok⟩,cq.drewN _ _ _⟩
   . have g:decide (x.to-x.cu<n)=false:=by simpa using a
     have i:decide (n<x.lo-x.cu)=true:=by simpa using m
     go_enter func256,ntmps256;go_wp2;go_quiet (fail);go_wp2;go_ret;exact⟨rfl,⟨h.head,⟨h.mem.head,h.mem.rest,h.mem.ne,h.mem.le⟩,h.yF,h.sT,h.ok⟩,cq.drewN _ _ _⟩
 . have d:r=({ x with cu:=x.cu+n },0):=by rw[c.out,if_neg a]
   subst d;clear c;have g:decide (x.to-x.cu<n)=false:=by simp;omega
   have i:decide (n<x.lo-x.cu)=false:=by simp;omega
   have j:x.lo<=x.cu+n:=by omega
   have k:x.cu+n<=x.to:=by omega
   clear a;go_enter func256,ntmps256;go_wp2;go_quiet (fail);go_wp2;go_ret;refine⟨rfl,?_,?_⟩
   . have:=h.oK (x.cu+n) j k
     exact⟨this.head,⟨this.mem.head,this.mem.rest,this.mem.ne,this.mem.le⟩,this.yF,this.sT,this.ok⟩
   . exact(cq.drewN _ _ _).trans (cq.setCell _ _ _ (fun _=>.inl rfl))
theorem dY.drew{w:World}{b a:Nat}{m:Mem}(h:dY w b a m):dY w.drew b a m:=⟨h.head,h.rest,h.ne,h.le⟩
theorem gR.drew{w:World}{s b a:Nat}{x:Sp}(h:gR w s b a x):gR w.drew s b a x:=⟨h.head,h.mem.drew,h.yF,h.sT,h.ok⟩
theorem gV.drew{b a:Nat}{r:Mem × Int}{w w':World}{e:Ending}(h:gV b a r w.drew e w'):gV b a r w e w':=⟨h.1,h.2.1,(cq.drew _ w).trans h.2.2⟩
theorem gR.dC{w:World}{s b a:Nat}{x:Sp}(h:gR w s b a x)(o:Obj):gR (w.alloc o) s b a x:=h.ct (dR w o) id id id
theorem Gz(w:World)(s b d:Nat)(x:Sp)(a:Int)(n:Int)(j k:Nat)(h:gR w s b d x)(l:w.cell? ⟨j,0,none⟩=some (cD s))(m:w.cell? ⟨k,0,none⟩=some (I_ n)) :
 Calls prog 155 #[I_ a,cD j,cD k] w (gV b d (x.mem.setCell a n) w):=by
 have o:=h.c0;have H:=h.mem;clear h;go_enter func155,ntmps155;go_wp2_with fail;go_still_tail 6,(by kernel_rfl);change wpList _ _ _ _ _ w.drew;go_wp2_with fail;refine(ed _ _ _ _ _ _ H.drew).mono ?_;rintro e w' i;obtain⟨rfl,f,g⟩:=i.drew;have c:=And.intro f g;clear f g i;go_wp2;go_ret;exact⟨rfl,c.1,c.2⟩
theorem yG(w:World)(s b i:Nat)(x:Sp)(n:Int)(o p:Nat)(h:gR w s b i x)(y:w.cell? ⟨o,0,none⟩=some (cD s))(z:w.cell? ⟨p,0,none⟩=some (I_ n)) :
 Calls prog 154 #[cD s,I_ (8),.func (.func 155) #[] #[cD o,cD p]] w (iH s b i (x.cN n) w):=by
 have H:=h_ h;have d:=h.c2;obtain⟨I,J,K,L⟩:=h.bd;clear h;have c:Hid (x.cN n=if 8<=x.to-x.cu then(if(x.mem.setCell x.cu n).2≠0 then({ x with mem:=(x.mem.setCell x.cu n).1 },(x.mem.setCell x.cu n).2)else Sp.gA { x with mem:=(x.mem.setCell x.cu n).1 } (8))else x.gA (8)):=rfl;have m:(x.mem.setCell x.cu n).1.size=x.mem.size:=Mem.cQ _ _ _;have A:=h_ (Gz w s b i x x.cu n o p H.out y z);generalize x.mem.setCell x.cu n=q at c m A;generalize x.cN n=r at c |-;have E:=h_ m;clear m y z;by_cases B:8<=x.to-x.cu
 . have a:=c.out
   rw[if_pos B]at a;have u:=h_ a;clear a c;go_enter func154,ntmps154;go_wp2_with fail;refine eD (eJ _ _ _ _ _ H.out) ?_;go_wp2_with fail;refine A.out.mono ?_;rintro e N ⟨rfl,C,l⟩;have D:=H.out.dI C E.out l;have v:=h_ D;have t:=h_ (l.mono (T:=fun k=>k=s\/k=i) (fun _ _ e=>.inr e));clear C l D;by_cases j:q.2=0
   . have F:(q.2 != 0)=false:=by simp[j]
     have a:=u.out;rw[if_neg (by simp[j])]at a;subst a;go_wp2_with fail;refine(lB _ _ _ _ _ _ v.out).mono ?_;rintro e G ⟨rfl,g,d⟩;have f:=h_ (And.intro g (t.out.trans d));clear g d;go_wp2;go_ret;exact⟨rfl,f.out.1,f.out.2⟩
   . have F:(q.2 != 0)=true:=by simp[j]
     have a:=u.out;rw[if_pos j]at a;subst a;go_wp2;go_ret;exact⟨rfl,v.out,t.out⟩
 . have a:=c.out
   rw[if_neg B]at a;subst a;clear c;have M:x.to-x.cu<8:=by omega
   go_enter func154,ntmps154;go_wp2_with fail;refine eD (eJ _ _ _ _ _ H.out) ?_;go_wp2_with fail;refine(lB _ _ _ _ _ _ H.out).mono ?_;rintro e G ⟨rfl,g,d⟩;have f:=h_ (And.intro g d);clear g d;go_wp2;go_ret;exact⟨rfl,f.out.1,f.out.2⟩
theorem eP(w:World)(s b a:Nat)(x:Sp)(n:Int)(h:gR w s b a x) :
 Calls prog 83 #[cD s,I_ n] w (iH s b a (x.cN n) w):=by
 have o:∀ (g:Fn) (f d:Array Value) (w:World),(Instr.makeFunc g f d).run prog w=.ok (.func g f d) w:=fun _ _ _ _=>rfl
 have m:=yG ((w.alloc (.cells #[cD s] 41)).alloc (.cells #[I_ n] 2)) s b a x n w.heap.size (w.heap.size+1)
  ((h.dC _).dC _) (by rw[World.cell?_alloc_lt _ _ _ (by simp)];exact World.cell?_alloc_new _ _ _ _) (by simp)
 have l:Hid (cq (fun k=>k=s\/k=a) w ((w.alloc (.cells #[cD s] 41)).alloc (.cells #[I_ n] 2))):=(cq.alloc _ _ _).trans (cq.alloc _ _ _);clear h;go_enter func83,ntmps83;go_wp2_with fail;refine m.mono ?_;rintro e p ⟨rfl,i,j⟩;have c:=And.intro i (l.out.trans j);clear i j;go_wp2;go_ret;exact⟨rfl,c.1,c.2⟩
theorem JI(w:World)(s b d:Nat)(x:Sp)(a:Int)(n:Int)(j k:Nat)(h:gR w s b d x)(l:w.cell? ⟨j,0,none⟩=some (cD s))(m:w.cell? ⟨k,0,none⟩=some (I_ n)) :
 Calls prog 381 #[I_ a,cD j,cD k] w (gV b d (x.mem.Yo a n) w):=by
 have o:=h.c0;have H:=h.mem;clear h;go_enter func381,ntmps381;go_wp2_with fail;go_still_tail 6,(by kernel_rfl);change wpList _ _ _ _ _ w.drew;go_wp2_with fail;refine(Ae _ _ _ _ _ _ H.drew).mono ?_;rintro e w' i;obtain⟨rfl,f,g⟩:=i.drew;have c:=And.intro f g;clear f g i;go_wp2;go_ret;exact⟨rfl,c.1,c.2⟩
theorem Ag(w:World)(s b i:Nat)(x:Sp)(n:Int)(o p:Nat)(h:gR w s b i x)(y:w.cell? ⟨o,0,none⟩=some (cD s))(z:w.cell? ⟨p,0,none⟩=some (I_ n)) :
 Calls prog 154 #[cD s,I_ (1),.func (.func 381) #[] #[cD o,cD p]] w (iH s b i (x.char n) w):=by
 have H:=h_ h;have d:=h.c2;obtain⟨I,J,K,L⟩:=h.bd;clear h;have c:Hid (x.char n=if 1<=x.to-x.cu then(if(x.mem.Yo x.cu n).2≠0 then({ x with mem:=(x.mem.Yo x.cu n).1 },(x.mem.Yo x.cu n).2)else Sp.gA { x with mem:=(x.mem.Yo x.cu n).1 } (1))else x.gA (1)):=rfl;have m:(x.mem.Yo x.cu n).1.size=x.mem.size:=Mem.kH _ _ _;have A:=h_ (JI w s b i x x.cu n o p H.out y z);generalize x.mem.Yo x.cu n=q at c m A;generalize x.char n=r at c |-;have E:=h_ m;clear m y z;by_cases B:1<=x.to-x.cu
 . have a:=c.out
   rw[if_pos B]at a;have u:=h_ a;clear a c;go_enter func154,ntmps154;go_wp2_with fail;refine eD (eJ _ _ _ _ _ H.out) ?_;go_wp2_with fail;refine A.out.mono ?_;rintro e N ⟨rfl,C,l⟩;have D:=H.out.dI C E.out l;have v:=h_ D;have t:=h_ (l.mono (T:=fun k=>k=s\/k=i) (fun _ _ e=>.inr e));clear C l D;by_cases j:q.2=0
   . have F:(q.2 != 0)=false:=by simp[j]
     have a:=u.out;rw[if_neg (by simp[j])]at a;subst a;go_wp2_with fail;refine(lB _ _ _ _ _ _ v.out).mono ?_;rintro e G ⟨rfl,g,d⟩;have f:=h_ (And.intro g (t.out.trans d));clear g d;go_wp2;go_ret;exact⟨rfl,f.out.1,f.out.2⟩
   . have F:(q.2 != 0)=true:=by simp[j]
     have a:=u.out;rw[if_pos j]at a;subst a;go_wp2;go_ret;exact⟨rfl,v.out,t.out⟩
 . have a:=c.out
   rw[if_neg B]at a;subst a;clear c;have M:x.to-x.cu<1:=by omega
   go_enter func154,ntmps154;go_wp2_with fail;refine eD (eJ _ _ _ _ _ H.out) ?_;go_wp2_with fail;refine(lB _ _ _ _ _ _ H.out).mono ?_;rintro e G ⟨rfl,g,d⟩;have f:=h_ (And.intro g d);clear g d;go_wp2;go_ret;exact⟨rfl,f.out.1,f.out.2⟩
theorem Oi(w:World)(s b a:Nat)(x:Sp)(n:Int)(h:gR w s b a x) :
 Calls prog 253 #[cD s,I_ n] w (iH s b a (x.char n) w):=by
 have o:∀ (g:Fn) (f d:Array Value) (w:World),(Instr.makeFunc g f d).run prog w=.ok (.func g f d) w:=fun _ _ _ _=>rfl
 have m:=Ag ((w.alloc (.cells #[cD s] 41)).alloc (.cells #[I_ n] 2)) s b a x n w.heap.size (w.heap.size+1)
  ((h.dC _).dC _) (by rw[World.cell?_alloc_lt _ _ _ (by simp)];exact World.cell?_alloc_new _ _ _ _) (by simp)
 have l:Hid (cq (fun k=>k=s\/k=a) w ((w.alloc (.cells #[cD s] 41)).alloc (.cells #[I_ n] 2))):=(cq.alloc _ _ _).trans (cq.alloc _ _ _);clear h;go_enter func253,ntmps253;go_wp2_with fail;refine m.mono ?_;rintro e p ⟨rfl,i,j⟩;have c:=And.intro i (l.out.trans j);clear i j;go_wp2;go_ret;exact⟨rfl,c.1,c.2⟩
theorem iH.refl{w:World}{s b a:Nat}{x:Sp}(h:gR w s b a x)(n:Int):iH s b a (x,n) w (.returned (I_ n)) w:=⟨rfl,h,cq.refl _ _⟩
theorem lC(w:World)(s b f:Nat)(x:Sp)(h:gR w s b f x) :
 Calls prog 147 #[cD s] w (iH s b f x.align w):=by
 go_enter func147,ntmps147;go_wp2_with fail
 go_loopw [2,3] (fun _ _ wr=>∃ y:Sp,y.align=x.align/\gR wr s b f y/\cq (fun k=>k=s\/k=f) w wr)
  (fun _ _ wr=>match C_ wr s 3 with | some (.int _ n)=>((8-n % 8) % 8).toNat | _=>0)
 case atStart=>exact⟨x,rfl,h,cq.refl _ _⟩
 case round =>
  obtain⟨y,j,d,i⟩:=hrel;have r:=d.c3;obtain⟨z,A,B,C⟩:=d.bd;go_wp2_with fail;refine eD (eJ _ _ _ _ _ d) ?_;by_cases c:y.cu % 8=0
  . have t:(y.cu % 8 != 0)=false:=by simp[c]
    have l:y.align=(y,0):=by unfold Sp.align;rw[Sp.fD,if_pos c]
    go_wp2;go_ret;rw[<- j,l];exact⟨rfl,d,i⟩
  . have t:(y.cu % 8 != 0)=true:=by simp[c]
    go_wp2_with fail;refine(Oi _ _ _ _ _ _ d).mono ?_;rintro e D ⟨rfl,g,o⟩;have q:=i.trans o;clear o i;by_cases a:(y.char 0).2=0
    . have u:((y.char 0).2 != 0)=false:=by simp[a]
      have v:=Sp.um y c a;have p:=Sp.pt 0 a;have m:=g.c3;rw[p]at m;clear p a;go_wp2;go_roundw;case rel=>exact⟨_,by rw[<- j,v],g,q⟩
      case measure=>simp only[r,m];omega
    . have u:((y.char 0).2 != 0)=true:=by simp[a]
      have l:y.align=y.char 0:=by unfold Sp.align;rw[Sp.fD,if_neg c,if_pos a]
      clear a;go_wp2;go_ret;rw[<- j,l];exact⟨rfl,g,q⟩
theorem qR(w:World)(s b e:Nat)(x:Sp)(n:Int)(h:gR w s b e x) :
 Calls prog 84 #[cD s,I_ n] w (iH s b e (x.fN n) w):=by
 have l:=h.c1;have m:=h.c3;have p:=h.f 3;have j:=h_ h.bd;have c:Hid (x.fN n=if n<x.lo\/x.cu<n then(x,-256)else({ x with cu:=n },0)):=rfl;generalize x.fN n=r at c |-;by_cases a:n<x.lo\/x.cu<n
 . have d:r=(x,-256):=by rw[c.out,if_pos a]
   subst d;clear c;have k:n<x.lo\/(x.lo<=n/\x.cu<n):=by omega
   clear a;rcases k with a | ⟨a,o⟩;all_goals
    go_enter func84,ntmps84;go_wp2;go_ret;exact iH.refl h _
 . have d:r=({ x with cu:=n },0):=by rw[c.out,if_neg a]
   subst d;clear c;have g:x.lo<=n:=by omega
   have i:n<=x.cu:=by omega
   clear a;go_enter func84,ntmps84;go_wp2;go_ret;exact⟨rfl,h.oK n g (Int.le_trans i j.out.2.2.1),cq.setCell _ _ _ (fun _=>.inl rfl)⟩
def jL(b bb:Nat)(m:Mem)(lo hi:Int)(w:World)(e:Ending)(w':World):Prop :=
 if Sp.kG m lo hi=0 then ∃ s,e=.returned (.tuple #[cD s,I_ 0])/\gR w' s b bb ⟨m,lo,hi,lo⟩/\w.heap.size<=s/\K_ w w'
 else e=.returned (.tuple #[.pointer none,I_ (-256)])/\w=w'
theorem Q'(w:World)(b d:Nat)(m:Mem)(a c:Int)(h:dY w b d m) :
 Calls prog 128 #[cD b,I_ a,I_ c] w (jL b d m a c w):=by
 have n:=h.lt;by_cases g:a<0\/c<a\/m.size<c
 . have f:jL b d m a c w=fun e w'=>e=.returned (.tuple #[.pointer none,I_ (-256)])/\w=w':=by
    funext e w';unfold jL Sp.kG;rw[if_neg (by rw[if_pos g];decide)]
   rw[f];clear f n;have l:a<0\/(0<=a/\c<a)\/(0<=a/\a<=c/\m.size<c):=by omega
   clear g;rcases l with h | ⟨i,j⟩ | ⟨i,j,k⟩
   . go_enter func128,ntmps128
     go_wp2;go_ret2;exact⟨rfl,rfl⟩
   . go_enter func128,ntmps128
     go_wp2;go_ret2;exact⟨rfl,rfl⟩
   . go_enter func128,ntmps128
     go_wp2_with fail;refine eD (js _ _ _ _ h) ?_;go_wp2;go_ret2;exact⟨rfl,rfl⟩
 . have f:jL b d m a c w=fun e w'=>∃ s,e=.returned (.tuple #[cD s,I_ 0])/\gR w' s b d ⟨m,a,c,a⟩/\w.heap.size<=s/\K_ w w':=by
    funext e w';unfold jL Sp.kG;rw[if_pos (by rw[if_neg g])]
   rw[f];clear f;have i:0<=a:=by omega
   have j:a<=c:=by omega
   have k:c<=m.size:=by omega
   clear g;go_enter func128,ntmps128;go_wp2_with fail;refine eD (js _ _ _ _ h) ?_;go_wp2;go_ret2;exact⟨w.heap.size,rfl,⟨cx _ _,h.ct (dR _ _) id id,by omega,by omega,i,Int.le_refl _,j,k⟩,Nat.le_refl _,cq.alloc _ _ _⟩
theorem vD(w:World)(s b d:Nat)(x:Sp)(a:Int)(t:List UInt8)(o:t.length<=4611686018427387904)(j k:Nat)(h:gR w s b d x)(l:w.cell? ⟨j,0,none⟩=some (cD s))(m:w.cell? ⟨k,0,none⟩=some (S_ t)) :
 Calls prog 254 #[I_ a,cD j,cD k] w (gV b d (x.mem.cS a t) w):=by
 have n:=h.c0;have H:=h.mem;clear h;go_enter func254,ntmps254;go_wp2_with fail;go_still_tail 6,(by kernel_rfl);change wpList _ _ _ _ _ w.drew;go_wp2_with fail;refine(oJ _ _ _ _ _ t H.drew (by omega)).mono ?_;rintro e w' i;obtain⟨rfl,f,g⟩:=i.drew;have c:=And.intro f g;clear f g i;go_wp2;go_ret;exact⟨rfl,c.1,c.2⟩
theorem yH(w:World)(s b i:Nat)(x:Sp)(t:List UInt8)(F:t.length<=4611686018427387904)(n o:Nat)(h:gR w s b i x)(y:w.cell? ⟨n,0,none⟩=some (cD s))(z:w.cell? ⟨o,0,none⟩=some (S_ t)) :
 Calls prog 154 #[cD s,I_ (t.length:Int),.func (.func 254) #[] #[cD n,cD o]] w (iH s b i (x.jl t) w):=by
 have H:=h_ h;have d:=h.c2;obtain⟨J,K,L,M⟩:=h.bd;clear h;have c:Hid (x.jl t=if(t.length:Int)<=x.to-x.cu then(if(x.mem.cS x.cu t).2≠0 then({ x with mem:=(x.mem.cS x.cu t).1 },(x.mem.cS x.cu t).2)else Sp.gA { x with mem:=(x.mem.cS x.cu t).1 } t.length)else x.gA t.length):=rfl;have m:(x.mem.cS x.cu t).1.size=x.mem.size:=Mem.eh _ _ _;have A:=h_ (vD w s b i x x.cu t F n o H.out y z);generalize x.mem.cS x.cu t=q at c m A;generalize x.jl t=r at c |-;have E:=h_ m;clear m y z;by_cases B:(t.length:Int)<=x.to-x.cu
 . have a:=c.out
   rw[if_pos B]at a;have u:=h_ a;clear a c;go_enter func154,ntmps154;go_wp2_with fail;refine eD (eJ _ _ _ _ _ H.out) ?_;go_wp2_with fail;refine A.out.mono ?_;rintro e O ⟨rfl,C,l⟩;have D:=H.out.dI C E.out l;have v:=h_ D;have p:=h_ (l.mono (T:=fun k=>k=s\/k=i) (fun _ _ e=>.inr e));clear C l D;by_cases j:q.2=0
   . have G:(q.2 != 0)=false:=by simp[j]
     have a:=u.out;rw[if_neg (by simp[j])]at a;subst a;go_wp2_with fail;refine(lB _ _ _ _ _ _ v.out).mono ?_;rintro e I ⟨rfl,g,d⟩;have f:=h_ (And.intro g (p.out.trans d));clear g d;go_wp2;go_ret;exact⟨rfl,f.out.1,f.out.2⟩
   . have G:(q.2 != 0)=true:=by simp[j]
     have a:=u.out;rw[if_pos j]at a;subst a;go_wp2;go_ret;exact⟨rfl,v.out,p.out⟩
 . have a:=c.out
   rw[if_neg B]at a;subst a;clear c;have N:x.to-x.cu<(t.length:Int):=by omega
   go_enter func154,ntmps154;go_wp2_with fail;refine eD (eJ _ _ _ _ _ H.out) ?_;go_wp2_with fail;refine(lB _ _ _ _ _ _ H.out).mono ?_;rintro e I ⟨rfl,g,d⟩;have f:=h_ (And.intro g d);clear g d;go_wp2;go_ret;exact⟨rfl,f.out.1,f.out.2⟩
theorem JJ(w:World)(s b a:Nat)(x:Sp)(t:List UInt8)(n:t.length<=4611686018427387904)(h:gR w s b a x) :
 Calls prog 151 #[cD s,S_ t] w (iH s b a (x.jl t) w):=by
 have o:∀ (g:Fn) (f d:Array Value) (w:World),(Instr.makeFunc g f d).run prog w=.ok (.func g f d) w:=fun _ _ _ _=>rfl
 have m:=yH ((w.alloc (.cells #[cD s] 41)).alloc (.cells #[S_ t] 9)) s b a x t n w.heap.size (w.heap.size+1)
  ((h.dC _).dC _) (by rw[World.cell?_alloc_lt _ _ _ (by simp)];exact World.cell?_alloc_new _ _ _ _) (by simp)
 have l:Hid (cq (fun k=>k=s\/k=a) w ((w.alloc (.cells #[cD s] 41)).alloc (.cells #[S_ t] 9))):=(cq.alloc _ _ _).trans (cq.alloc _ _ _);clear h;go_enter func151,ntmps151;go_wp2_with fail;refine m.mono ?_;rintro e p ⟨rfl,i,j⟩;have c:=And.intro i (l.out.trans j);clear i j;go_wp2;go_ret;exact⟨rfl,c.1,c.2⟩
theorem dY.dC{w:World}{b a:Nat}{m:Mem}(h:dY w b a m)(o:Obj):dY (w.alloc o) b a m:=h.ct (dR w o) id id
theorem sf(w:World)(b g:Nat)(m:Mem)(t:Int)(h:dY w b g m) :
 Calls prog 180 #[cD b,I_ t] w fun e w'=>e=.returned (I_ (dj.cy m t))/\w=w':=by
 have a:Hid (dj.cy m t=if(m.cell t).2≠0\/(m.cell t).1<1\/1024<(m.cell t).1 then 0 else if(m.dJ t ((2+(m.cell t).1*3)*8)).2≠0 then 0 else(m.cell t).1):=rfl;have d:=h_ (eu w b g m t h);generalize dj.cy m t=r at a |-;generalize m.cell t=q at a d;obtain⟨n,e⟩:=q;simp only at a d;by_cases j:e=0
 . subst j
   by_cases p:n<1
   . have c:r=0:=by rw[a.out,if_pos (by omega)]
     subst c;clear a;go_enter func180,ntmps180;go_wp2_with fail;refine eD d.out ?_;go_wp2;go_ret;exact⟨rfl,rfl⟩
   . by_cases u:1024<n
     . have c:r=0:=by rw[a.out,if_pos (by omega)]
       subst c;clear a;have k:1<=n:=by omega
       go_enter func180,ntmps180;go_wp2_with fail;refine eD d.out ?_;go_wp2;go_ret;exact⟨rfl,rfl⟩
     . have c:r=if(m.dJ t ((2+n*3)*8)).2≠0 then 0 else n:=by rw[a.out,if_neg (by omega)]
       clear a;have k:1<=n:=by omega
       have v:n<=1024:=by omega
       have i:=h_ (uG w b g m t ((2+n*3)*8) h);generalize m.dJ t ((2+n*3)*8)=q at c i;obtain⟨s,e⟩:=q;simp only at c i;go_enter func180,ntmps180;go_wp2_with fail;refine eD d.out ?_;go_wp2_with fail;refine eD i.out ?_;by_cases f:e=0
       . have l:(e != 0)=false:=by simp[f]
         go_wp2;go_ret;exact⟨qQ (by rw[c,if_neg (by simpa using f)]),rfl⟩
       . have l:(e != 0)=true:=by simp[f]
         go_wp2;go_ret;exact⟨qQ (by rw[c,if_pos f]),rfl⟩
 . have c:r=0:=by rw[a.out,if_pos (by omega)]
   subst c;clear a;have o:(e != 0)=true:=by simp[j]
   go_enter func180,ntmps180;go_wp2_with fail;refine eD d.out ?_;go_wp2;go_ret;exact⟨rfl,rfl⟩
theorem JK(w:World)(t i:Int)(a : -4611686018427387904<=t)(b:t<=4611686018427387904)(c:0<=i)(d:i<=4096) :
 Calls prog 394 #[I_ t,I_ i] w fun e w'=>e=.returned (I_ (dj.pos t i))/\w=w':=by
 go_enter func394,ntmps394;go_wp2;go_ret;exact⟨rfl,rfl⟩
theorem JL(w:World)(a n:Int)(b:1<=n)(c:n<=4096) :
 Calls prog 395 #[I_ a,I_ n] w fun e w'=>e=.returned (I_ (dj.gB a n))/\w=w':=by
 go_enter func395,ntmps395;go_wp2;go_ret;exact⟨rfl,rfl⟩
def jz.val(x:jz):Value:=.agg #[I_ x.cZ,I_ x.xt,I_ x.j7]
theorem uH(w:World)(b c:Nat)(m:Mem)(t i:Int)(h:dY w b c m)(n : -4611686018427387904<=t)(o:t<=4611686018427387904)(q:0<=i)(s:i<=4096) :
 Calls prog 282 #[cD b,I_ t,I_ i] w fun e w'=>e=.returned (dj.cT m t i).val/\K_ w w':=by
 have f:=fun w=>JK w t i n o q s;have l : -4611686018427387904<=dj.pos t i/\dj.pos t i<=4611686018427487904:=by unfold dj.pos;omega
 have a:Hid (dj.cT m t i=⟨(m.cell (dj.pos t i)).1,(m.cell (dj.pos t i+8)).1,(m.cell (dj.pos t i+16)).1⟩):=rfl;generalize dj.cT m t i=r at a |-;generalize dj.pos t i=p at l f a;obtain⟨C,D⟩:=l;have g:=h_ fun w h=>eu w b c m p h;have j:=h_ fun w h=>eu w b c m (p+8) h;have k:=h_ fun w h=>eu w b c m (p+16) h;have d:=a.out;clear a;generalize m.cell p=u at g d;generalize m.cell (p+8)=y at j d;generalize m.cell (p+16)=A at k d;obtain⟨x,E⟩:=u;obtain⟨z,F⟩:=y;obtain⟨B,G⟩:=A;subst d;go_enter func282,ntmps282;go_wp2_with fail;refine eD (f _) ?_;go_wp2_with fail;refine eD (g.out _ (by exact h.dC _)) ?_;go_wp2_with fail;refine eD (j.out _ (by exact h.dC _)) ?_;go_wp2_with fail;refine eD (k.out _ (by exact h.dC _)) ?_;go_wp2;exact bodyPost_ret (v:=.agg #[I_ x,I_ z,I_ B]) (by simp[results,results282,go_sem]) rfl ⟨rfl,cq.alloc _ _ _⟩
def yI(r:Int × Int):Ending:=.returned (.tuple #[I_ r.1,I_ r.2])
theorem sh(w:World)(b o:Nat)(m:Mem)(t a:Int)(h:dY w b o m) :
 Calls prog 283 #[cD b,I_ t,I_ a] w fun e w'=>e=yI (dj.ek m t a)/\K_ w w':=by
 have H:=h_ h;have ac:=h.le;clear h;obtain⟨G,V⟩:=dj.iL m t;have z:=dj.lg m t;have u:=fun w H=>sf w b o m t H;have j:Hid (dj.ek m t a=dj.iu m t a (dj.cy m t) (dj.cy m t).toNat 0):=rfl;generalize dj.ek m t a=r at j |-;generalize dj.cy m t=n at G V z u j;have Q:=h_ u;have N:=h_ z;clear u z;go_enter func283,ntmps283;go_wp2_with fail;refine eD (Q.out _ H.out) ?_;go_wp2_with fail
 go_loopw [9] (fun v wr=>∃ i:Int,0<=i/\i<=n/\v=I_ i/\dY wr b o m/\K_ w wr/\r=dj.iu m t a n (n-i).toNat i) (fun v _=>(n-intOf v).toNat)
 case atStart=>exact⟨0,Int.le_refl _,G,rfl,H.out,cq.refl _ _,by rw[j.out,Int.sub_zero]⟩
 case round =>
  obtain⟨i,aa,ab,rfl,E,I,F⟩:=hrel;have B:=h_ E;have l:=h_ F;have C:=h_ I;clear E F I j;by_cases ad:i<n
  . have U:1<=n:=by omega
    obtain⟨t0,t1,t2⟩:=N.out (by omega);obtain⟨S,T⟩:=dj.N4 a n (by omega);have y:=fun w=>JL w a n U (by omega);have d:dj.iu m t a n (n-i).toNat i=if(dj.cT m t ((dj.gB a n+i) % n)).cZ=a\/(dj.cT m t ((dj.gB a n+i) % n)).cZ=0 then((dj.gB a n+i) % n,i+1)else dj.iu m t a n (n-(i+1)).toNat (i+1):=by
     rw[show(n-i).toNat=(n-(i+1)).toNat+1 by omega,dj.iu]
    generalize dj.gB a n=h at S T y d;have M:=h_ y;have J:0<=(h+i) % n:=Int.emod_nonneg _ (by omega);have k1:(h+i) % n<n:=Int.emod_lt_of_pos _ (by omega);have p:=fun w H=>uH w b o m t ((h+i) % n) H (by omega) (by omega) J (by omega);generalize D:(h+i) % n=k at J k1 p d;have O:=h_ D;generalize dj.cT m t k=x at p d;obtain⟨c,K,L⟩:=x;have R:=h_ p;have q:=h_ d;clear p d D y;go_wp2_with fail;refine eD (M.out _) ?_;go_wp2_with fail;rw[O.out];refine(R.out _ B.out).mono ?_;rintro e w2 ⟨rfl,A⟩;have P:=h_ ((B.out.ct A id id).dC (.cells #[I_ c,I_ K,I_ L] 279));have s:=h_ ((C.out.trans A).trans (dR w2 (.cells #[I_ c,I_ K,I_ L] 279)));clear A;unfold jz.val;by_cases f:c=a
    . have W:(c == a)=true:=by simp[f]
      have X:=h_ f;clear f;go_wp2;go_ret2;exact⟨by rw[l.out,q.out,if_pos (.inl X.out)];rfl,s.out⟩
    . have W:(c == a)=false:=by simp[f]
      by_cases g:c=0
      . have Y:(c == 0)=true:=by simp[g]
        have Z:=h_ g;clear g;go_wp2;go_ret2;exact⟨by rw[l.out,q.out,if_pos (.inr Z.out)];rfl,s.out⟩
      . have Y:(c == 0)=false:=by simp[g]
        go_wp2;go_roundw;case rel=>exact⟨i+1,by omega,by omega,rfl,P.out,s.out,by rw[l.out,q.out,if_neg (by simp[f,g])]⟩
        case measure=>simp[intOf];omega
  . have ae:n<=i:=by omega
    go_wp2;go_ret2;refine⟨?_,C.out⟩;rw[l.out,show(n-i).toNat=0 by omega];rfl
set_option maxHeartbeats 1000000
def wD(r:jz × Int × Bool):Ending:=.returned (.tuple #[r.1.val,I_ r.2.1,.bool r.2.2])
theorem EN(w:World)(b H:Nat)(m:Mem)(t a:Int)(h:dY w b H m) :
 Calls prog 182 #[cD b,I_ t,I_ a] w fun e w'=>e=wD (dj.get m t a)/\K_ w w':=by
 have aa:=h.le;have G:=dj.lg m t;obtain⟨X,Y⟩:=dj.iL m t;obtain⟨N,C⟩:=dj.mF m t a;have F:=fun w h=>sh w b H m t a h;have l:Hid (dj.get m t a=if(dj.ek m t a).1<0\/a<1 then(⟨0,0,0⟩,(dj.ek m t a).2,false)else if(dj.cT m t (dj.ek m t a).1).cZ≠a then(⟨0,0,0⟩,(dj.ek m t a).2,false)else(dj.cT m t (dj.ek m t a).1,(dj.ek m t a).2,true)):=rfl;generalize dj.get m t a=r at l |-;generalize dj.cy m t=n at G X Y C;generalize dj.ek m t a=q at N C F l;obtain⟨i,c⟩:=q;simp only at N C l;unfold yI at F;by_cases o:i<0\/a<1
 . have g:=l.out
   rw[if_pos o]at g;subst g;clear l G;have W:i<0\/(0<=i/\a<1):=by omega
   clear o C;rcases W with o | ⟨o,L⟩;all_goals
    go_enter func182,ntmps182;go_wp2_with fail;refine(F _ (by exact h.dC _)).mono ?_;rintro e J ⟨rfl,k⟩;have d:J.heap[w.heap.size]?=some (.cells #[I_ 0,I_ 0,I_ 0] 279 (0,0)):=k.heap (cx _ _) id;have Q:=cp (i:=0) d rfl;have R:=cp (i:=1) d rfl;have S:=cp (i:=2) d rfl;have T:=cB (i:=0) d;have U:=cB (i:=1) d;have V:=cB (i:=2) d;have f:=Ab d (I_ 0) (I_ 0) (I_ 0);have z:=cp (i:=0) f rfl;have A:=cp (i:=1) f rfl;have B:=cp (i:=2) f rfl;have y:=((((dR w _).trans k).dW ⟨w.heap.size,0,none⟩ (I_ 0) (Nat.le_refl _)).dW ⟨w.heap.size,1,none⟩ (I_ 0) (Nat.le_refl _)).dW ⟨w.heap.size,2,none⟩ (I_ 0) (Nat.le_refl _);clear d f k;go_wp2;exact bodyPost_ret (v:=.tuple #[.agg #[I_ 0,I_ 0,I_ 0],I_ c,.bool false]) (by simp[results,results182,go_sem,z,A,B]) rfl ⟨rfl,y⟩
 . have L:0<=i:=by omega
   have h3:1<=a:=by omega
   have g:=l.out;rw[if_neg o]at g;obtain⟨t0,t1,t2⟩:=G (by omega);have O:=fun w h=>uH w b H m t i h (by omega) (by omega) L (by omega);generalize dj.cT m t i=x at O g;obtain⟨j,s,u⟩:=x;clear l G o C;go_enter func182,ntmps182;go_wp2_with fail;refine(F _ (by exact h.dC _)).mono ?_;rintro e J ⟨rfl,k⟩;have K:=(h.dC (.cells #[I_ 0,I_ 0,I_ 0] 279)).ct k id id;have I:J.heap[w.heap.size]?=some (.cells #[I_ 0,I_ 0,I_ 0] 279 (0,0)):=k.heap (cx _ _) id;go_wp2_with fail;refine(O _ K).mono ?_;rintro e P ⟨rfl,D⟩;have M2:=(K.ct D id id).dC (.cells #[I_ j,I_ s,I_ u] 279);have d:P.heap[w.heap.size]?=some (.cells #[I_ 0,I_ 0,I_ 0] 279 (0,0)):=D.heap I id;have M:w.heap.size<P.heap.size:=cA (D.heap I id);have E:=((dR w (.cells #[I_ 0,I_ 0,I_ 0] 279)).trans k).trans D;clear k D I;unfold jz.val;have Q:=cp (i:=0) d rfl;have R:=cp (i:=1) d rfl;have S:=cp (i:=2) d rfl;have T:=cB (i:=0) d;have U:=cB (i:=1) d;have V:=cB (i:=2) d;by_cases p:j=a
   . have Z:(j != a)=false:=by simp[p]
     have g:=g;rw[if_neg (by simpa using p)]at g;subst g;have f:=Ab d (I_ j) (I_ s) (I_ u);have z:=cp (i:=0) f rfl;have A:=cp (i:=1) f rfl;have B:=cp (i:=2) f rfl;have y:=(((E.dW ⟨w.heap.size,0,none⟩ (I_ j) (Nat.le_refl _)).dW ⟨w.heap.size,1,none⟩ (I_ s) (Nat.le_refl _)).dW ⟨w.heap.size,2,none⟩ (I_ u) (Nat.le_refl _)).trans (dR _ (.cells #[I_ j,I_ s,I_ u] 279));clear d f E p;go_wp2;exact bodyPost_ret (v:=.tuple #[.agg #[I_ j,I_ s,I_ u],I_ c,.bool true]) (by simp[results,results182,go_sem,z,A,B,M]) rfl ⟨rfl,y⟩
   . have Z:(j != a)=true:=by simp[p]
     have g:=g;rw[if_pos (by simpa using p)]at g;subst g;have f:=Ab d (I_ 0) (I_ 0) (I_ 0);have z:=cp (i:=0) f rfl;have A:=cp (i:=1) f rfl;have B:=cp (i:=2) f rfl;have y:=(((E.dW ⟨w.heap.size,0,none⟩ (I_ 0) (Nat.le_refl _)).dW ⟨w.heap.size,1,none⟩ (I_ 0) (Nat.le_refl _)).dW ⟨w.heap.size,2,none⟩ (I_ 0) (Nat.le_refl _)).trans (dR _ (.cells #[I_ j,I_ s,I_ u] 279));clear d f E p;go_wp2;exact bodyPost_ret (v:=.tuple #[.agg #[I_ 0,I_ 0,I_ 0],I_ c,.bool false]) (by simp[results,results182,go_sem,z,A,B,M]) rfl ⟨rfl,y⟩
theorem Oj(w:World)(b k:Nat)(m:Mem)(t a:Int)(h:dY w b k m) :
 Calls prog 388 #[cD b,I_ t,I_ a] w fun e w'=>e=.returned (.bool (dj.tH m t a))/\K_ w w':=by
 have f:=fun w h=>sh w b k m t a h;have d:Hid (dj.tH m t a=(decide (0<=(dj.ek m t a).1) && decide (1<=a))):=rfl;generalize dj.tH m t a=r at d |-;generalize dj.ek m t a=q at f d;obtain⟨i,c⟩:=q;simp only at d;unfold yI at f;by_cases l:0<=i
 . have g:decide (0<=i)=true:=by simpa using l
   go_enter func388,ntmps388;go_wp2_with fail;refine(f _ h).mono ?_;rintro e n ⟨rfl,j⟩;go_wp2;go_ret;exact⟨by rw[d.out,g,Bool.true_and];rfl,j⟩
 . have g:decide (0<=i)=false:=by simpa using l
   have o:i<0:=by omega
   go_enter func388,ntmps388;go_wp2_with fail;refine(f _ h).mono ?_;rintro e n ⟨rfl,j⟩;go_wp2;go_ret;exact⟨by rw[d.out,g,Bool.false_and];rfl,j⟩
end Go.Proofs.dS
namespace Go.Proofs.tI
open Go Go.RowKit Go.Proofs.K
def nm(l:List UInt8):Value:=S_ l
def names:List (List UInt8):=[[101,120,105,116],[108,105,116],[98,114,97,110,99,104],[48,98,114,97,110,99,104],[40,100,111,41],[40,108,111,111,112,41],[40,43,108,111,111,112,41],[105],[106],[117,110,108,111,111,112],[100,117,112],[100,114,111,112],[115,119,97,112],[111,118,101,114],[114,111,116],[110,105,112],[116,117,99,107],[63,100,117,112],[112,105,99,107],[100,101,112,116,104],[62,114],[114,62],[114,64],[43],[45],[42],[47],[109,111,100],[97,110,100],[111,114],[120,111,114],[108,115,104,105,102,116],[114,115,104,105,102,116],[61],[60,62],[60],[62],[117,60],[109,105,110],[109,97,120],[110,101,103,97,116,101],[105,110,118,101,114,116],[97,98,115],[48,61],[48,60],[49,43],[99,104,97,114,43],[49,45],[50,42],[50,47],[99,101,108,108,115],[99,101,108,108,43],[97,108,105,103,110,101,100],[64],[33],[99,64],[99,33],[43,33],[104,101,114,101],[97,108,108,111,116],[44],[99,44],[97,108,105,103,110],[101,109,105,116],[99,114],[115,112,97,99,101],[116,121,112,101],[46],[117,46],[107,101,121],[101,120,101,99,117,116,101],[99,97,116,99,104],[116,104,114,111,119],[40,99,97,117,103,104,116,41],[97,98,111,114,116],[97,108,108,111,99,97,116,101],[102,114,101,101],[114,101,115,105,122,101],[115,101,108,102],[110,101,119],[99,108,97,115,115,111,102],[40,115,101,110,100,41],[40,99,97,108,108,41],[40,115,117,112,101,114,41],[40,101,120,105,116,109,41],[98,121,101]]
theorem fZ:names.length=86:=by decide +kernel
theorem GG(a:Act)(w:World):(execOp a.eval (match f208.body with
 | some (.seq _ (.seq (.region _ b _) _))=>b[0]!
 | _=>default)).run prog w=.ok (.value (.slice (some ⟨w.heap.size,0,none⟩) 86 86)) (w.alloc (.cells (names.map nm).toArray 9)):=by kernel_rfl
theorem mO(w:World):Calls prog 208 #[] w fun e w'=>e=.returned (.slice (some ⟨w.heap.size,0,none⟩) 86 86)/\w.alloc (.cells (names.map nm).toArray 9)=w':=by
 go_enter func208,ntmps208;go_wp2_with (with_reducible refine CH rfl _ _ (GG _ _) ?_);go_ret;exact⟨rfl,rfl⟩
theorem Te:(prog.info? 9).map (fun i=>(i.zero,i.size,i.bytes))=some (some (.string ⟨#[]⟩),1,16):=by kernel_rfl
def ft(v:List UInt8):List (List UInt8)->Nat
 | []=>0
 | x :: l=>if v=x then 0 else ft v l+1
def yJ(v:List UInt8)(l:List (List UInt8)):Int:=if ft v l<l.length then ft v l else -1
theorem GH{v:List UInt8}{l:List (List UInt8)}{k:Nat}(a:k<l.length)(b:∀ j,j<k->(h:j<l.length)->v≠l[j])(e:v=l[k]):ft v l=k:=by
 induction l generalizing k with
 | nil=>simp at a
 | cons x l c =>
  rw[ft];cases k with
  | zero=>rw[if_pos (show v=x from e)]
  | succ k =>
   rw[if_neg (show v≠x from b 0 (by omega) (by simp)),c (k:=k) (by simpa using a) (fun j d h=>b (j+1) (by omega) (by simpa using h)) (by simpa using e)]
theorem CJ{v:List UInt8}{l:List (List UInt8)}(a:∀ j,(h:j<l.length)->v≠l[j]):ft v l=l.length:=by
 induction l with
 | nil=>rfl
 | cons x l b =>
  rw[ft,if_neg (show v≠x from a 0 (by simp)),b (fun j h=>a (j+1) (by simpa using h))];rfl
theorem Ol{v:List UInt8}{l:List (List UInt8)}{k:Nat}(a:k<l.length)(b:∀ j,j<k->(h:j<l.length)->v≠l[j])(e:v=l[k]):(k:Int)=yJ v l:=by
 rw[yJ,GH a b e,if_pos a]
theorem JN{v:List UInt8}{l:List (List UInt8)}(a:∀ j,(h:j<l.length)->v≠l[j]):(-1:Int)=yJ v l:=by
 rw[yJ,CJ a,if_neg (by omega)]
theorem tT{a b:Int}(h:a=b):Ending.returned (I_ a)=.returned (I_ b):=by rw[h]
theorem qS{w:World}{a:Option Addr}{n c:Nat}{b:List (List UInt8)}(h:fp w 9 1 a n c (b.map nm))(i:Nat)(d:i<b.length) :
 ∃ g,a=some ⟨g,0,none⟩/\w.cell? ⟨g,i,none⟩=some (nm b[i]):=by
 have e:n=b.length:=by have:=h.1;simp at this;omega
 obtain⟨g,rfl⟩:∃ g,a=some ⟨g,0,none⟩:=by
  rcases h.jK with⟨_,h,_⟩ | ⟨g,_,h,_⟩
  . omega
  . exact⟨_,h⟩
 exact⟨g,rfl,h.cell (by simp[d])⟩
set_option maxRecDepth 10000 in
theorem xi(a:Option Addr)(n c:Nat)(ss:List (List UInt8))(v:List UInt8)(w:World)(h:fp w 9 1 a n c (ss.map nm))(hn:n=ss.length)(hl:n<=100000) :
 Calls Tryz.prog 207 #[.slice a n c,S_ v] w fun e w'=>e=.returned (I_ (yJ v ss))/\w=w':=by
 go_enter Tryz.func207,Tryz.ntmps207
 go_wp2
 go_loop [8] (fun i=>∃ k:Nat,k<=ss.length/\i=I_ k/\∀ j,j<k->(h:j<ss.length)->v≠ss[j]) (fun i=>ss.length-(intOf i).toNat)
 case atStart=>exact⟨0,Nat.zero_le _,rfl,fun j hj=>by omega⟩
 case round =>
  obtain⟨k,hk,rfl,hno⟩:=hrel;by_cases hlt:k<ss.length
  . obtain⟨g,rfl,hc⟩:=qS h k hlt
    have b1:(k:Int)<n:=by omega
    have b2:(0:Int)<=k:=by omega
    have HN:=h_ hno;have Hn:=h_ hn;clear hno hn;generalize hx:ss[k]=x at hc;unfold nm at hc;have HX:=h_ hx;clear hx
    go_wp2
    . have e:v=ss[k]:=by
       have:(v == x)=true:=by assumption
       rw[HX.out];simpa using this
      go_ret
      exact⟨tT (Ol hlt HN.out e),rfl⟩
    . have e:v≠ss[k]:=by
       have:(v == x)=false:=by assumption
       rw[HX.out];simpa using this
      go_round
      case rel =>
       refine⟨k+1,by omega,by go_num,fun j hj hjl=>?_⟩
       by_cases hjk:j=k
       . subst hjk;exact e
       . exact HN.out j (by omega) hjl
      case measure=>simp[intOf];omega
  . have b1:(n:Int)<=k:=by omega
    have HN:=h_ hno;have Hn:=h_ hn;clear hno hn
    go_wp2
    go_ret
    exact⟨tT (JN (fun j h=>HN.out j (by omega) h)),rfl⟩
set_option maxRecDepth 10000 in
theorem yK(a:Option Addr)(n c:Nat)(ss:List (List UInt8))(v:List UInt8)(w:World)(h:fp w 9 1 a n c (ss.map nm))(hn:n=ss.length)(hl:n<=100000) :
 Calls Tryz.prog 419 #[.slice a n c,S_ v] w fun e w'=>e=.returned (.bool (decide (0<=yJ v ss)))/\w=w':=by
 have HN:=h_ hn;clear hn
 go_enter Tryz.func419,Tryz.ntmps419
 go_wp2_with fail;refine(xi a n c ss v w h HN.out hl).mono ?_;rintro e w1 ⟨rfl,rfl⟩
 go_wp2
 go_ret
 exact⟨rfl,rfl⟩
theorem px(w:World):fp (w.alloc (.cells (names.map nm).toArray 9)) 9 1 (some ⟨w.heap.size,0,none⟩) 86 86 (names.map nm):=by
 refine⟨by decide +kernel,.inr ⟨w.heap.size,86,_,rfl,Nat.zero_le _,cx _ _,Nat.le_refl _,by decide,by decide +kernel,?_⟩⟩;have:(names.map nm).length=86*1:=by decide +kernel
 show(names.map nm).take (86*1)=names.map nm;rw[<- this];exact List.take_length
theorem JO(v:List UInt8)(l:List (List UInt8))(n:Nat)(a:l.length=n) : -1<=yJ v l/\yJ v l<n:=by
 unfold yJ;split <;> omega
def num(v:List UInt8):Int:=yJ v names+1
set_option maxRecDepth 10000 in
theorem uI(v:List UInt8)(w:World):Calls Tryz.prog 121 #[S_ v] w fun e w'=>e=.returned (I_ (num v))/\K_ w w':=by
 have hb:=JO v names 86 fZ;have HF:=h_ (show num v=yJ v names+1 from rfl)
 generalize num v=r at HF |-;have hi:=fun w=>xi (some ⟨w.heap.size,0,none⟩) 86 86 names v _ (px w) fZ.symm (by omega)
 generalize yJ v names=q at hi hb HF;have HI:=h_ hi;clear hi
 go_enter Tryz.func121,Tryz.ntmps121
 go_wp2_with fail;refine(mO _).mono ?_;rintro e w1 ⟨rfl,rfl⟩;go_wp2_with fail;refine(HI.out _).mono ?_;rintro e w1 ⟨rfl,rfl⟩
 go_wp2
 go_ret
 exact⟨tT HF.out.symm,cq.alloc _ _ _⟩
def fc(n:Int):List UInt8:=if 1<=n/\n<=86 then names.getD (n-1).toNat [] else []
set_option maxRecDepth 10000 in
theorem JP(n:Int)(w:World):Calls Tryz.prog 375 #[I_ n] w fun e w'=>e=.returned (nm (fc n))/\K_ w w':=by
 by_cases h:1<=n/\n<=86
 . have HN:Hid (fc n=names.getD (n-1).toNat []):=by unfold fc;rw[if_pos h];exact rfl
   obtain⟨h1,h2⟩:=h;generalize fc n=r at HN |-;obtain⟨k,rfl⟩:∃ k:Nat,n=k+1:=⟨(n-1).toNat,by omega⟩
   have hk:k<names.length:=by rw[fZ];omega
   obtain⟨g,hg,hc⟩:=qS (px w) k hk
   cases hg
   have hr:names[k]=r:=by
    rw[HN.out,show((k:Int)+1-1).toNat=k by omega,List.getD_eq_getElem?_getD,List.getElem?_eq_getElem hk]
    rfl
   rw[hr]at hc;have HR:=h_ hr;clear hr HN;unfold nm at hc
   go_enter Tryz.func375,Tryz.ntmps375
   go_wp2_with fail;refine(mO _).mono ?_;rintro e w1 ⟨rfl,rfl⟩
   go_wp2
   go_ret
   refine⟨?_,cq.alloc _ _ _⟩
   show Ending.returned (nm names[k])=_
   rw[HR.out]
 . have HN:Hid (fc n=[]):=by unfold fc;rw[if_neg h];exact rfl
   rw[HN.out];have h:n<1\/(1<=n/\86<n):=by omega
   rcases h with h | ⟨h,h2⟩
   all_goals
    go_enter Tryz.func375,Tryz.ntmps375
    go_wp2_with fail;refine(mO _).mono ?_;rintro e w1 ⟨rfl,rfl⟩
    go_wp2
    go_ret
    exact⟨rfl,cq.alloc _ _ _⟩
def inl(v:List UInt8):Int:=if v == [108,105,116] then 1 else if v == [98,114,97,110,99,104] then 1 else if v == [48,98,114,97,110,99,104] then 1 else if v == [40,108,111,111,112,41] then 1 else if v == [40,43,108,111,111,112,41] then 1 else if v == [40,115,101,110,100,41] then 1 else if v == [40,99,97,108,108,41] then 1 else if v == [40,115,117,112,101,114,41] then 2 else 0
def nJ:List (List UInt8):=[[101,120,105,116],[40,100,111,41],[40,99,97,117,103,104,116,41],[40,101,120,105,116,109,41],[105],[106],[117,110,108,111,111,112],[62,114],[114,62],[114,64]]
theorem Ra(v:List UInt8):0<=inl v/\inl v<=2:=by
 unfold inl
 repeat' split
 all_goals decide
set_option maxRecDepth 10000 in
theorem uJ(v:List UInt8)(w:World):(Calls Tryz.prog 377 #[S_ v] w fun e w'=>e=.returned (I_ (inl v))/\w=w'):=by
 go_enter Tryz.func377,Tryz.ntmps377
 go_wp2
 all_goals first
  | (exfalso;simp_all;done)
  | (go_ret;exact⟨tT (by simp[inl, *]),rfl⟩)
theorem Om(v:List UInt8)(l:List (List UInt8)):(0<=yJ v l) ↔ v ∈ l:=by
 have:ft v l<l.length ↔ v ∈ l:=by
  induction l with
  | nil=>simp[ft]
  | cons x l a =>
   rw[ft];split
   . rename_i h;simp[h]
   . rename_i h;simp[h,<- a]
 unfold yJ;split
 . rename_i h;simp[this.1 h]
 . rename_i h;simp[mt this.2 h]
def Tf(v:List UInt8):Bool:=decide (0<inl v) || decide (v ∈ nJ)
theorem GI(w:World):fp (w.alloc (.cells (nJ.map nm).toArray 9)) 9 1 (some ⟨w.heap.size,0,none⟩) 10 10 (nJ.map nm):=by
 refine⟨by decide +kernel,.inr ⟨w.heap.size,10,_,rfl,Nat.zero_le _,cx _ _,Nat.le_refl _,by decide,by decide +kernel,?_⟩⟩;have:(nJ.map nm).length=10*1:=by decide +kernel
 show(nJ.map nm).take (10*1)=nJ.map nm;rw[<- this];exact List.take_length
set_option maxRecDepth 10000 in
theorem GJ(v:List UInt8)(w:World):(Calls Tryz.prog 376 #[S_ v] w fun e w'=>e=.returned (.bool (Tf v))/\K_ w w'):=by
 have hb:=Ra v;have hI:=fun w=>uJ v w
 have HD:Hid (Tf v=(decide (0<inl v) || decide (v ∈ nJ))):=rfl
 have hm:=Om v nJ;have hC:=fun w=>yK (some ⟨w.heap.size,0,none⟩) 10 10 nJ v _ (GI w) (by decide +kernel) (by decide)
 generalize inl v=r at hb hI HD;generalize Tf v=q at HD |-;have HI:=h_ hI;have HC:=h_ hC;have HM:=h_ hm;clear hI hC hm;by_cases hr:0<r
 . go_enter Tryz.func376,Tryz.ntmps376
   go_wp2_with fail;refine(HI.out _).mono ?_;rintro e w1 ⟨rfl,rfl⟩;go_wp2_with fail;go_ret
   refine⟨?_,cq.refl _ _⟩;rw[HD.out];simp[hr]
 . have hr':decide (0<r)=false:=by simpa using hr
   go_enter Tryz.func376,Tryz.ntmps376
   go_wp2_with fail;refine(HI.out _).mono ?_;rintro e w1 ⟨rfl,rfl⟩;go_wp2_with fail;refine(HC.out _).mono ?_;rintro e w1 ⟨rfl,rfl⟩;go_wp2_with fail;go_ret
   refine⟨?_,cq.alloc _ _ _⟩;rw[HD.out,hr'];simp[HM.out]
end Go.Proofs.tI
namespace Go.Proofs.dS
open Go.Proofs.tI
namespace Vm
def gG(cF:Int):List (List UInt8)->Sp->Int->Option (Sp × Int)
 | [],x,ea=>some (x,ea)
 | nm :: r,x,ea=>if(x.cO cF nm 0 (num nm)).2.2=0 then gG cF r (x.cO cF nm 0 (num nm)).1 (if nm=[40,99,97,117,103,104,116,41] then(x.cO cF nm 0 (num nm)).2.1.xt else ea)else none
def qT(x:Sp):Option (Sp × Int × Int × Int) :=
 if(x.cN 10).2≠0 then none else
 if(x.cN 10).1.cF.2.2≠0 then none else
 match gG (x.cN 10).1.cF.2.1 names (x.cN 10).1.cF.1 0 with
 | none=>none
 | some (y,ea) =>
  let l:=(x.cN 10).1.cF.2.1
  let c:=y.cO l [98,97,115,101] 0 1003
  if c.2.2≠0 then none else
  if(c.1.cN x.cu).2≠0 then none else
  if((c.1.cN x.cu).1.cN ea).2≠0 then none else
  some (((c.1.cN x.cu).1.cN ea).1,x.cu,l,(c.1.cN x.cu).1.cu)
end Vm
set_option maxHeartbeats 4000000
open Go Go.RowKit Go.Proofs.K
structure qJ(w:World)(b bb:Nat)(m:Mem):Prop where
 head:w.heap[b]?=some (.cells #[.slice (some ⟨bb,0,none⟩) m.size m.size] 303 (0,0))
 rest:w.heap[bb]?=some (.cells m.j' 5 (0,0))
 ne:b≠bb
 le:m.size<=4194304
theorem qJ.cell{w:World}{b a:Nat}{m:Mem}(h:qJ w b a m):w.cell? ⟨b,0,none⟩=some (.slice (some ⟨a,0,none⟩) m.size m.size):=cp h.head rfl
theorem qJ.byte{w:World}{b a:Nat}{m:Mem}(h:qJ w b a m){i:Nat}(c:i<m.size):w.cell? ⟨a,i,none⟩=some (.int .u8 (m.byte i)):=cp h.rest (m.oI i c)
theorem qJ.ct{w w':World}{b a:Nat}{m:Mem}(h:qJ w b a m){S:Nat->Prop}(k:cq S w w')(c:¬ S b)(d:¬ S a):qJ w' b a m:=⟨k.heap h.head c,k.heap h.rest d,h.ne,h.le⟩
theorem qJ.JG{w:World}{b a:Nat}{m:Mem}(h:qJ w b a m)(i v:Nat)(c:v<256):qJ (w.setCell ⟨a,i,none⟩ (.int .u8 v)) b a (m.put i 1 v) :=
 ⟨(Below.heap_setCell _ _ _ _ h.ne).trans h.head,by rw[<- Mem.Ac m i v c];exact cz h.rest _,h.ne,h.le⟩
theorem qJ.lt{w:World}{b a:Nat}{m:Mem}(h:qJ w b a m):b<w.heap.size/\a<w.heap.size:=⟨cA h.head,cA h.rest⟩
theorem CK(w:World)(b i:Nat)(m:Mem)(a n:Int)(h:qJ w b i m) :
 Calls prog 370 #[cD b,I_ a,I_ n] w fun e w'=>e=.returned (.bool (m.has a n))/\w=w':=by
 have o:=h.cell;have q:=h.le;have c:Hid (m.has a n=(decide (0<=n) && decide (0<=a) && decide (n<=m.size) && decide (a<=m.size-n))):=rfl;generalize m.has a n=r at c |-;generalize m.size=f at *;clear h;by_cases k:0<=a
 . by_cases j:0<=n
   . by_cases p:a<=f
     . by_cases l:n<=f
       . have s:wrap64 (a+n)=a+n:=IntWalk.wrap64_in _ (by omega)
         have d:r=decide (a+n<=f):=by rw[c.out];simp[j,k,l];omega
         subst d;clear c;go_enter func370,ntmps370;go_wp2;go_ret;exact⟨rfl,rfl⟩
       . have d:r=false:=by rw[c.out];simp;omega
         subst d;have g:(f:Int)<n:=by omega
         clear c;go_enter func370,ntmps370;go_wp2;go_ret;exact⟨rfl,rfl⟩
     . have d:r=false:=by rw[c.out];simp;omega
       subst d;have g:(f:Int)<a:=by omega
       clear c;go_enter func370,ntmps370;go_wp2;go_ret;exact⟨rfl,rfl⟩
   . have d:r=false:=by rw[c.out];simp;omega
     subst d;have g:n<0:=by omega
     clear c;go_enter func370,ntmps370;go_wp2;go_ret;exact⟨rfl,rfl⟩
 . have d:r=false:=by rw[c.out];simp;omega
   subst d;have g:a<0:=by omega
   clear c;go_enter func370,ntmps370;go_wp2;go_ret;exact⟨rfl,rfl⟩
theorem ER(w:World)(b k:Nat)(m:Mem)(a:Int)(h:qJ w b k m) :
 Calls prog 216 #[cD b,I_ a] w fun e w'=>e=.returned (I_ (m.cM a))/\w=w':=by
 have c:Hid (m.cM a=if m.has a 8 then(if a % 8=0 then 0 else -23)else -9):=rfl;have j:=CK w b k m a 8 h;have g:=m.eI a 8;generalize m.cM a=r at c |-;generalize m.has a 8=q at c j g;cases q with
 | false =>
  have i:r = -9:=c.out;subst i;clear c h g;go_enter func216,ntmps216;go_wp2_with fail;refine eD j ?_;go_wp2;go_ret;exact⟨rfl,rfl⟩
 | true =>
  have l:0<=a:=(g.1 rfl).2.1;have n:a.tmod 8=a % 8:=Int.tmod_eq_emod_of_nonneg l;by_cases f:a % 8=0
  . have i:r=0:=by rw[c.out,if_pos f];rfl
    subst i;have d:(a % 8 != 0)=false:=by simp[f]
    clear c h g f;go_enter func216,ntmps216;go_wp2_with fail;refine eD j ?_;go_wp2;go_ret;exact⟨rfl,rfl⟩
  . have i:r = -23:=by rw[c.out,if_neg f];rfl
    subst i;have d:(a % 8 != 0)=true:=by simp[f]
    clear c h g f;go_enter func216,ntmps216;go_wp2_with fail;refine eD j ?_;go_wp2;go_ret;exact⟨rfl,rfl⟩
theorem On(m:Mem)(a n:Nat):m.get a (n+1)=m.byte a+256*m.get (a+1) n:=by
 unfold Mem.byte Mem.get;rw[show 8*(a+1)=8*a+8 by omega,Nat.shiftRight_add,show 8*(n+1)=8*1+8*n by omega,Nat.pow_add];generalize m.bits >>> (8*a)=x;rw[Nat.shiftRight_eq_div_pow,show(2 ^ (8*1):Nat)=256 by decide,Nat.mod_mul]
theorem qU(w:World)(b o:Nat)(m:Mem)(a:Int)(h:qJ w b o m) :
 Calls prog 138 #[cD b,I_ a] w fun e w'=>e=.returned (.tuple #[I_ (m.cell a).1,I_ (m.cell a).2])/\w=w':=by
 have d:Hid (m.cell a=if m.cM a=0 then(zM (m.get a.toNat 8),0)else(0,m.cM a)):=rfl;have n:=ER w b o m a h;have i:=m.dX a;generalize m.cell a=r at d |-;generalize m.cM a=q at d n i;by_cases f:q=0
 . obtain⟨U,V,W⟩:=i.1 f
   obtain⟨c,rfl⟩:∃ c:Nat,a=c:=⟨a.toNat,by omega⟩;have s:r=(zM (m.get c 8),0):=by rw[d.out,if_pos f];rfl
   subst f s;have R:=h.cell;have T:=h.le;have J:(c:Int)+8<=m.size:=by omega
   clear d i;go_enter func138,ntmps138;go_wp2_with fail;refine eD n ?_;go_wp2_with fail
   go_loopw [7,8] (fun E t wr=>∃ k:Nat,k<=8/\t=I_ ((k:Int)-1)/\E=.int .u64 (m.get (c+k) (8-k):Nat)/\wr=w) (fun _ t _=>(intOf t+1).toNat)
   case atStart=>exact⟨8,Nat.le_refl _,rfl,by rw[Nat.sub_self,Mem.ug];rfl,rfl⟩
   case round =>
    obtain⟨k,S,rfl,rfl,rfl⟩:=hrel;by_cases x:0<k
    . obtain⟨j,rfl⟩:∃ j,k=j+1:=⟨k-1,by omega⟩
      have z:C_ wr o (c+j)=some (.int .u8 (m.byte (c+j))):=h.byte (by omega);have p:(((j+1:Nat):Int)-1)=(j:Int):=by omega
      rw[p];have l:=On m (c+j) (8-(j+1));rw[show 8-(j+1)+1=8-j by omega,show c+j+1=c+(j+1) by omega]at l;have A:=m.yu (c+j);have u:=m.lf (c+j) (8-j)
      have B:m.get (c+j) (8-j)<18446744073709551616:=Nat.lt_of_lt_of_le u (by
       calc 2 ^ (8*(8-j))<=2 ^ 64:=Nat.pow_le_pow_right (by omega) (by omega)
        _=18446744073709551616:=by decide)
      generalize m.get (c+(j+1)) (8-(j+1))=g at l |-;generalize m.byte (c+j)=y at z l A;have K:(0:Int)<=(j:Int):=by omega
      have L:(c:Int)+j<m.size:=by omega
      have M:(0:Int)<=(c:Int)+j:=by omega
      have N:wrap64 ((c:Int)+j)=(c:Int)+j:=IntWalk.wrap64_in _ (by omega);have O:wrap64 ((j:Int)-1)=(j:Int)-1:=IntWalk.wrap64_in _ (by omega);have P:((c:Int)+j).toNat=c+j:=by omega
      have F:IntKind.u64.wrap (y:Int)=y:=by rw[IntKind.wrap_u64];omega
      have G:IntKind.u64.wrap ((g:Int)*256)=(g:Int)*256:=by rw[IntKind.wrap_u64];omega
      have H:IntKind.u64.wrap ((g:Int)*256+y)=(g:Int)*256+y:=by rw[IntKind.wrap_u64];omega
      have I:=And.intro F (And.intro G H);clear u B x;go_wp2;go_roundw;case rel=>exact⟨j,by omega,rfl,by rw[l];congr 1;push_cast;omega,trivial⟩
      case measure=>simp[intOf]
    . have C:k=0:=by omega
      subst C;have p:(((0:Nat):Int)-1) = -1:=rfl;have v:=m.lf c 8;have D:=Ad (m.get c 8) (by simpa using v);rw[p];clear x v;go_wp2;go_ret2;refine⟨?_,rfl⟩;show Ending.returned (.tuple #[I_ (wrap64 ((m.get (c+0) (8-0):Nat):Int)),I_ 0])=_;rw[Nat.add_zero,Nat.sub_zero,D]
 . have s:r=(0,q):=by rw[d.out,if_neg f]
   subst s;have Q:(q == 0)=false:=by simp[f]
   clear d i f;go_enter func138,ntmps138;go_wp2_with fail;refine eD n ?_;go_wp2;go_ret2;exact⟨rfl,rfl⟩
theorem qj(w:World)(b d:Nat)(m:Mem)(a n:Int)(h:qJ w b d m) :
 Calls prog 211 #[cD b,I_ a,I_ n] w fun e w'=>e=.returned (I_ (m.setCell a n).2)/\qJ w' b d (m.setCell a n).1/\cq (fun k=>k=d) w w':=by
 have f:Hid (m.setCell a n=if m.cM a=0 then(m.put a.toNat 8 (u64 n),0)else(m,m.cM a)):=rfl;have t:=ER w b d m a h;have p:=m.dX a;generalize m.setCell a n=r at f |-;generalize m.cM a=q at f t p;by_cases g:q=0
 . obtain⟨V,W,X⟩:=p.1 g
   obtain⟨c,rfl⟩:∃ c:Nat,a=c:=⟨a.toNat,by omega⟩;have x:r=(m.put c 8 (u64 n),0):=by rw[f.out,if_pos g];rfl
   subst g x;have U:=h.le;have G:(c:Int)+8<=m.size:=by omega
   have C:IntKind.u64.wrap n=(u64 n:Int):=by rw[IntKind.wrap_u64];unfold u64;omega
   have z:=Jn n;generalize u64 n=u at C z |-;clear f p;go_enter func211,ntmps211;go_wp2_with fail;refine eD t ?_;go_wp2_with fail
   go_loopw [8,9] (fun F E wr=>∃ k:Nat,k<=8/\E=I_ k/\F=.int .u64 ((u >>> (8*k):Nat):Int)/\qJ wr b d (m.put c k u)/\cq (fun k=>k=d) w wr) (fun _ i _=>8-(intOf i).toNat)
   case atStart=>exact⟨0,Nat.zero_le _,rfl,rfl,by rw[Mem.qL];exact h,cq.refl _ _⟩
   case round =>
    obtain⟨k,T,rfl,rfl,j,l⟩:=hrel;by_cases y:k<8
    . have H:C_ wr b 0=some (.slice (some ⟨d,0,none⟩) m.size m.size):=j.cell
      have I:C_ wr d (c+k)=some (.int .u8 ((m.put c k u).byte (c+k))):=j.byte (by rw[Mem.gZ];omega);have R:wr.frozen? ⟨d,c+k,none⟩=false:=cB j.rest;have J:(k:Int)<8:=by omega
      have K:(0:Int)<=k:=by omega
      have L:(c:Int)+k<m.size:=by omega
      have M:(0:Int)<=(c:Int)+k:=by omega
      have N:wrap64 ((c:Int)+k)=(c:Int)+k:=IntWalk.wrap64_in _ (by omega);have O:wrap64 ((k:Int)+1)=(k:Int)+1:=IntWalk.wrap64_in _ (by omega);have P:((c:Int)+k).toNat=c+k:=by omega
      have s:=j.JG (c+k) ((u >>> (8*k)) % 256) (Nat.mod_lt _ (by decide));rw[show(u >>> (8*k)) % 256=(u >>> (8*k)) % 2 ^ (8*1) from rfl,Mem.tS,<- Mem.uh]at s;have D:u >>> (8*k)<18446744073709551616:=Nat.lt_of_le_of_lt (Nat.shiftRight_le _ _) z;have A:u >>> (8*(k+1))=(u >>> (8*k)) / 256:=by rw[show 8*(k+1)=8*k+8 by omega,Nat.shiftRight_add,Nat.shiftRight_eq_div_pow (u >>> (8*k))]
      generalize u >>> (8*k)=v at s D A |-;have o:=l;rw[show((v % 256:Nat):Int)=(v:Int) % 256 by omega]at s;replace o:=l.trans (cq.setCell (S:=fun k=>k=d) wr ⟨d,c+k,none⟩ (.int .u8 ((v:Int) % 256)) (fun _=>rfl));clear l y;go_wp2;go_roundw;case rel=>exact⟨k+1,by omega,by go_num,by rw[A];congr 1,s,o⟩
      case measure=>simp[intOf];omega
    . have B:k=8:=by omega
      subst B;have o:=l;clear l y;go_wp2;go_ret;exact⟨rfl,j,o⟩
 . have x:r=(m,q):=by rw[f.out,if_neg g]
   subst x;have Q:(q == 0)=false:=by simp[g]
   clear f p g;go_enter func211,ntmps211;go_wp2_with fail;refine eD t ?_;go_wp2;go_ret;exact⟨rfl,h,cq.refl _ _⟩
theorem Oq(l:List UInt8)(i:Nat)(h:i<l.length)(m:Mem)(k:Nat):(m.put k i (qH l)).put (k+i) 1 l[i].toNat=m.put k (i+1) (qH l):=by
 rw[Mem.uh m k i (qH l),<- Mem.tS _ (k+i) 1 (qH l >>> (8*i))];have:=xf l i h;rw[show(qH l >>> (8*i)) % 2 ^ (8*1)=l[i].toNat from this]
theorem CL(w:World)(b d:Nat)(m:Mem)(a:Int)(s:List UInt8)(h:qJ w b d m)(M:s.length<=4194304) :
 Calls prog 418 #[cD b,I_ a,S_ s] w fun e w'=>e=.returned (I_ (m.cS a s).2)/\qJ w' b d (m.cS a s).1/\cq (fun k=>k=d) w w':=by
 have f:Hid (m.cS a s=if m.has a s.length then(m.put a.toNat s.length (qH s),0)else(m,-9)):=rfl;have o:=CK w b d m a s.length h;have l:=m.eI a s.length;have K:=h.le;generalize m.cS a s=r at f |-;generalize m.has a s.length=q at f o l;cases q with
 | false =>
  have t:r=(m,-9):=f.out;subst t;clear f l;go_enter func418,ntmps418;go_wp2_with fail;refine eD o ?_;go_wp2;go_ret;exact⟨rfl,h,cq.refl _ _⟩
 | true =>
  have I:=l.1 rfl;obtain⟨c,rfl⟩:∃ k:Nat,a=k:=⟨a.toNat,by omega⟩;have t:r=(m.put c s.length (qH s),0):=f.out;subst t;clear f l;go_enter func418,ntmps418;go_wp2_with fail;refine eD o ?_;go_wp2_with fail
  go_loopw [8] (fun x wr=>∃ k:Nat,k<=s.length/\x=I_ k/\qJ wr b d (m.put c k (qH s))/\cq (fun k=>k=d) w wr) (fun i _=>s.length-(intOf i).toNat)
  case atStart=>exact⟨0,Nat.zero_le _,rfl,by rw[Mem.qL];exact h,cq.refl _ _⟩
  case round =>
   obtain⟨k,J,rfl,g,n⟩:=hrel;by_cases u:k<s.length
   . have y:C_ wr b 0=some (.slice (some ⟨d,0,none⟩) m.size m.size):=g.cell
     have z:C_ wr d (c+k)=some (.int .u8 ((m.put c k (qH s)).byte (c+k))):=g.byte (by rw[Mem.gZ];omega);have H:wr.frozen? ⟨d,c+k,none⟩=false:=cB g.rest;have A:(k:Int)<s.length:=by omega
     have B:(0:Int)<=k:=by omega
     have C:(c:Int)+k<m.size:=by omega
     have D:(0:Int)<=(c:Int)+k:=by omega
     have E:IntKind.i64.wrap ((c:Int)+k)=(c:Int)+k:=IntWalk.i64_in _ (by omega);have F:wrap64 ((k:Int)+1)=(k:Int)+1:=IntWalk.wrap64_in _ (by omega);have G:((c:Int)+k).toNat=c+k:=by omega
     have j:=g.JG (c+k) s[k].toNat (s[k].toNat_lt);rw[Oq s k u]at j;have p:=n.trans (cq.setCell (S:=fun k=>k=d) wr ⟨d,c+k,none⟩ (.int .u8 (s[k].toNat:Int)) (fun _=>rfl));clear n;go_wp2_with fail;go_region
     go_wp2;go_roundw;case rel=>exact⟨k+1,by omega,by go_num,⟨j.head,j.rest,j.ne,j.le⟩,p.trans (cq.drew _ _)⟩
     case measure=>simp[intOf];omega
   . have v:k=s.length:=by omega
     subst v;have p:=n;have L:¬ ((s.length:Int)<s.length):=by omega
     clear n u;go_wp2;go_ret;exact⟨rfl,g,p⟩
theorem Ot(w:World)(b f:Nat)(m:Mem)(a n:Int)(h:qJ w b f m) :
 Calls prog 421 #[cD b,I_ a,I_ n] w fun e w'=>e=.returned (.tuple #[JH (m.dJ a n).1,I_ (m.dJ a n).2])/\w=w':=by
 have H:=h_ h;have F:=h.le;have C:=h.cell;have j:=fun i g=>h.byte (i:=i) g;have c:Hid (m.dJ a n=if m.has a n then(fg n.toNat (m.get a.toNat n.toNat),0)else([],-9)):=rfl;have d:=h_ (CK w b f m a n h);have p:=h_ (m.eI a n);clear h;generalize m.has a n=q at d p c;generalize m.dJ a n=r at c |-;cases q with
 | false =>
  have o:r=([],-9):=c.out;subst o;clear c j;go_enter func421,ntmps421;go_wp2_with fail;refine eD d.out ?_;go_wp2;go_ret2;exact⟨rfl,rfl⟩
 | true =>
  have s:=p.out.1 rfl;obtain⟨k,rfl⟩:∃ k:Nat,a=k:=⟨a.toNat,by omega⟩;obtain⟨l,rfl⟩:∃ l:Nat,n=l:=⟨n.toNat,by omega⟩;have o:r=(fg l (m.get k l),0):=c.out;subst o;have v:(k:Int)+l<=m.size:=by omega
  have x:(0:Int)<=k:=by omega
  have y:(0:Int)<=l:=by omega
  have z:wrap64 ((k:Int)+l)=(k:Int)+l:=IntWalk.wrap64_in _ (by omega);have A:(0:Int)<=(k:Int)+l:=by omega
  have B:(k:Int)<=(k:Int)+l:=by omega
  have t:=run_convert_bytes_arg (P:=prog) w 143 5 underlying143 underlying5 f k l (m.size-k) ((List.range l).map fun i=>(m.byte (k+i):Int)) (by simp) (fun i g=>by
   rw[j (k+i) (by omega)]
   simp[List.getD_eq_getElem?_getD,g]) 9 underlying9
  clear c s j;by_cases E:m.size=k
  . have u:l=0:=by omega
    subst u;have D:=run_convert_bytes_arg (P:=prog) w 143 5 underlying143 underlying5 f 0 0 0 [] (by simp) (fun i g=>by omega) 9 underlying9;clear t;go_enter func421,ntmps421;go_wp2_with fail;refine eD d.out ?_;go_wp2;go_ret2;exact⟨rfl,rfl⟩
  . go_enter func421,ntmps421
    go_wp2_with fail;refine eD d.out ?_;go_wp2;go_ret2;refine⟨?_,rfl⟩;show Ending.returned (.tuple #[.string _,I_ 0])=_;rw[Af];rfl
theorem Rb(w:World)(k:Nat)(l:k<=1048576):Calls prog 132 #[I_ (k:Int)] w fun e w'=>∃ b c,e=.returned (cD b)/\qJ w' b c (Mem.zero k)/\w.heap.size<=b/\w.heap.size<=c/\K_ w w':=by
 obtain⟨j,d,g,h,i⟩:=info_parts CI;have a:=fun w=>run_make (P:=prog) w 143 5 j (.int .u8 0) underlying143 d g .i64 .i64 k k (by omega) (by omega) (by rw[i];omega) (by omega);rw[h]at a;simp only[Int.toNat_natCast,Value.cells,xh]at a;generalize f:(Mem.zero k).j'=V at a;go_enter func132,ntmps132;go_wp2;go_ret;refine⟨w.heap.size+1,w.heap.size,by simp,⟨?_,?_,by omega,by show k<=_;omega⟩,by omega,by omega,(cq.alloc _ _ _).trans (cq.alloc _ _ _)⟩
 . have:=cx (w.alloc (.cells V 5)) (.cells #[.slice (some ⟨w.heap.size,0,none⟩) k k] 303)
   rw[World.size_alloc]at this;exact this
 . rw[f]
   exact(dp _ _ (by simp)).trans (cx w _)
theorem uK{w:World}{g:Nat}{e f j a3:Value}{t:TypeId}(h:w.heap[g]?=some (.cells #[e,f,j,a3] t (0,0)))(a b c d:Value) :
 ((((w.setCell ⟨g,0,none⟩ a).setCell ⟨g,1,none⟩ b).setCell ⟨g,2,none⟩ c).setCell ⟨g,3,none⟩ d).heap[g]?=some (.cells #[a,b,c,d] t (0,0)) :=
 cz (i:=3) (cz (i:=2) (cz (i:=1) (cz (i:=0) h a) b) c) d
theorem ix{S:Nat->Prop}{b w:World}(k:cq S b w)(g:Nat)(c d e f:Value)(a:b.heap.size<=g):cq S b ((((w.setCell ⟨g,0,none⟩ c).setCell ⟨g,1,none⟩ d).setCell ⟨g,2,none⟩ e).setCell ⟨g,3,none⟩ f) :=
 (((k.dW ⟨g,0,none⟩ c a).dW ⟨g,1,none⟩ d a).dW ⟨g,2,none⟩ e a).dW ⟨g,3,none⟩ f a
def Re(w:World)(e:Ending)(w':World):Prop:=∃ (a x f l:Int) (s:List UInt8) (k:Bool),e=.returned (.tuple #[.agg #[I_ a,I_ x,I_ f,S_ s],I_ l,.bool k])/\K_ w w' /\ -9223372036854775808<=l/\l<=9223372036854775807
theorem Ou(w:World)(b B:Nat)(m:Mem)(a:Int)(h:qJ w b B m)(R:0<=a)(S:a<=4194304) :
 Calls prog 383 #[cD b,I_ a] w (Re w):=by
 have q:=dR w (.cells #[I_ 0,I_ 0,I_ 0,.string ⟨#[]⟩] 307);have e:=cx w (.cells #[I_ 0,I_ 0,I_ 0,.string ⟨#[]⟩] 307);have u:=h.ct q id id;generalize V:w.alloc (.cells #[I_ 0,I_ 0,I_ 0,.string ⟨#[]⟩] 307)=r at q e u;have y:=qU r b B m a u;have z:=qU r b B m (a+8) u;have f:=m.fh a;have N:=(show(-9223372036854775808:Int)<=0/\(0:Int)<=9223372036854775807 from by decide);generalize m.cell a=q0 at y f;obtain⟨v0,o⟩:=q0;generalize m.cell (a+8)=q1 at z;obtain⟨d,s⟩:=q1;dsimp only at y z f;have A:=Ot r b B m (a+16) (d % 256) u;generalize m.dJ (a+16) (d % 256)=q2 at A;obtain⟨Q,t⟩:=q2;have H:=fun p=>qU r b B m p u;dsimp only at A;have Y:IntKind.i64.wrap (a+8)=a+8:=IntWalk.i64_in _ (by omega);have W:IntKind.i64.wrap (a+16)=a+16:=IntWalk.i64_in _ (by omega);have Z:wrap64 (a+8)=a+8:=IntWalk.wrap64_in _ (by omega);have X:wrap64 (a+16)=a+16:=IntWalk.wrap64_in _ (by omega);have aa:0<=d % 256:=by omega
 have ab:d % 256<=255:=by omega
 clear h;go_enter func383,ntmps383;go_wp2_with fail;clear V;refine eD y ?_;go_wp2_with fail;refine eD z ?_;have R:C_ r w.heap.size 0=some (I_ 0):=cp e rfl;have S:C_ r w.heap.size 1=some (I_ 0):=cp e rfl;have a2:C_ r w.heap.size 2=some (I_ 0):=cp e rfl;have a3:C_ r w.heap.size 3=some (.string ⟨#[]⟩):=cp e rfl;have f0:=cB (i:=0) e;have f1:=cB (i:=1) e;have f2:=cB (i:=2) e;have f3:=cB (i:=3) e;by_cases D:o≠0\/s≠0\/d<0\/31<d % 256
 . have K:o≠0\/(o=0/\s≠0)\/(o=0/\s=0/\d<0)\/(o=0/\s=0/\0<=d/\31<d % 256):=by omega
   clear D A H f Y W Z X y z;have f:=N;rcases K with h | ⟨n,h⟩ | ⟨n,C,h⟩ | ⟨n,C,h3,h⟩
   . have E:(o != 0)=true:=by simp[h]
     clear h;go_wp2_with fail;have c:=uK e (I_ 0) (I_ 0) (I_ 0) (S_ ([]:List UInt8));have g:=cp (i:=0) c rfl;have j:=cp (i:=1) c rfl;have k:=cp (i:=2) c rfl;have l:=cp (i:=3) c rfl;exact bodyPost_ret (v:=.tuple #[.agg #[I_ 0,I_ 0,I_ 0,S_ ([]:List UInt8)],I_ 0,.bool false]) (by simp[results,results383,go_sem,g,j,k,l]) rfl ⟨_,_,_,_,_,_,rfl,ix q _ _ _ _ _ (Nat.le_refl _),f⟩
   . have E:(o != 0)=false:=by simp[n]
     have J:(s != 0)=true:=by simp[h]
     clear h n;go_wp2_with fail;have c:=uK e (I_ 0) (I_ 0) (I_ 0) (S_ ([]:List UInt8));have g:=cp (i:=0) c rfl;have j:=cp (i:=1) c rfl;have k:=cp (i:=2) c rfl;have l:=cp (i:=3) c rfl;exact bodyPost_ret (v:=.tuple #[.agg #[I_ 0,I_ 0,I_ 0,S_ ([]:List UInt8)],I_ 0,.bool false]) (by simp[results,results383,go_sem,g,j,k,l]) rfl ⟨_,_,_,_,_,_,rfl,ix q _ _ _ _ _ (Nat.le_refl _),f⟩
   . have E:(o != 0)=false:=by simp[n]
     have J:(s != 0)=false:=by simp[C]
     have O:decide (d<0)=true:=by simp[h]
     clear n C;go_wp2_with fail;have c:=uK e (I_ 0) (I_ 0) (I_ 0) (S_ ([]:List UInt8));have g:=cp (i:=0) c rfl;have j:=cp (i:=1) c rfl;have k:=cp (i:=2) c rfl;have l:=cp (i:=3) c rfl;exact bodyPost_ret (v:=.tuple #[.agg #[I_ 0,I_ 0,I_ 0,S_ ([]:List UInt8)],I_ 0,.bool false]) (by simp[results,results383,go_sem,g,j,k,l]) rfl ⟨_,_,_,_,_,_,rfl,ix q _ _ _ _ _ (Nat.le_refl _),f⟩
   . have E:(o != 0)=false:=by simp[n]
     have J:(s != 0)=false:=by simp[C]
     have O:decide (d<0)=false:=by simp;omega
     have T:decide (31<d % 256)=true:=by simp[h]
     clear n C;go_wp2_with fail;have c:=uK e (I_ 0) (I_ 0) (I_ 0) (S_ ([]:List UInt8));have g:=cp (i:=0) c rfl;have j:=cp (i:=1) c rfl;have k:=cp (i:=2) c rfl;have l:=cp (i:=3) c rfl;exact bodyPost_ret (v:=.tuple #[.agg #[I_ 0,I_ 0,I_ 0,S_ ([]:List UInt8)],I_ 0,.bool false]) (by simp[results,results383,go_sem,g,j,k,l]) rfl ⟨_,_,_,_,_,_,rfl,ix q _ _ _ _ _ (Nat.le_refl _),f⟩
 . have E:(o != 0)=false:=by simp;omega
   have J:(s != 0)=false:=by simp;omega
   have T:decide (31<d % 256)=false:=by simp;omega
   have O:decide (d<0)=false:=by simp;omega
   have hv:0<=d:=by omega
   have ac:d % 256<=31:=by omega
   have ad:wrap64 (a+16+d % 256)=a+16+d % 256:=IntWalk.wrap64_in _ (by omega);have ae:IntKind.i64.wrap (a+16+d % 256)=a+16+d % 256:=IntWalk.i64_in _ (by omega);clear D;go_wp2_with fail;refine eD A ?_;unfold JH;clear A y z;go_wp2_with fail
   go_loopw [13] (fun M wr=>∃ x:Int,M=I_ x/\0<=x/\x+(0-x) % 8<=5000000/\wr=r) (fun M _=>((0-intOf M) % 8).toNat)
   case atStart=>exact⟨_,rfl,by omega,by omega,rfl⟩
   case round =>
    obtain⟨x,rfl,x0,x1,rfl⟩:=hrel;have P:wrap64 (x+1)=x+1:=IntWalk.wrap64_in _ (by omega);by_cases L:x % 8=0
    . have F:(x % 8 != 0)=false:=by simp[L]
      go_wp2_with fail;have I:=H x;generalize m.cell x=q3 at I;obtain⟨v3,G⟩:=q3;dsimp only at I;clear H L x1 P;refine eD I ?_;by_cases D:t≠0\/G≠0
      . have K:t≠0\/(t=0/\G≠0):=by omega
        clear D f;have f:=N;rcases K with h | ⟨n,h⟩
        . have F:(t != 0)=true:=by simp[h]
          clear h;go_wp2_with fail;have c:=uK e (I_ 0) (I_ 0) (I_ 0) (S_ ([]:List UInt8));have g:=cp (i:=0) c rfl;have j:=cp (i:=1) c rfl;have k:=cp (i:=2) c rfl;have l:=cp (i:=3) c rfl;exact bodyPost_ret (v:=.tuple #[.agg #[I_ 0,I_ 0,I_ 0,S_ ([]:List UInt8)],I_ 0,.bool false]) (by simp[results,results383,go_sem,g,j,k,l]) rfl ⟨_,_,_,_,_,_,rfl,ix q _ _ _ _ _ (Nat.le_refl _),f⟩
        . have F:(t != 0)=false:=by simp[n]
          have U:(G != 0)=true:=by simp[h]
          clear h n;go_wp2_with fail;have c:=uK e (I_ 0) (I_ 0) (I_ 0) (S_ ([]:List UInt8));have g:=cp (i:=0) c rfl;have j:=cp (i:=1) c rfl;have k:=cp (i:=2) c rfl;have l:=cp (i:=3) c rfl;exact bodyPost_ret (v:=.tuple #[.agg #[I_ 0,I_ 0,I_ 0,S_ ([]:List UInt8)],I_ 0,.bool false]) (by simp[results,results383,go_sem,g,j,k,l]) rfl ⟨_,_,_,_,_,_,rfl,ix q _ _ _ _ _ (Nat.le_refl _),f⟩
      . have F:(t != 0)=false:=by simp;omega
        have U:(G != 0)=false:=by simp;omega
        clear D;go_wp2_with fail;have c:=uK e (I_ a) (I_ x) (I_ (wrap64 (d.tdiv 256))) (S_ (Q:List UInt8));have g:=cp (i:=0) c rfl;have j:=cp (i:=1) c rfl;have k:=cp (i:=2) c rfl;have l:=cp (i:=3) c rfl;exact bodyPost_ret (v:=.tuple #[.agg #[I_ a,I_ x,I_ (wrap64 (d.tdiv 256)),S_ (Q:List UInt8)],I_ v0,.bool true]) (by simp[results,results383,go_sem,g,j,k,l]) rfl ⟨_,_,_,_,_,_,rfl,ix q _ _ _ _ _ (Nat.le_refl _),f⟩
    . have F:(x % 8 != 0)=true:=by simp[L]
      go_wp2;go_roundw;case rel=>exact⟨x+1,rfl,by omega,by omega,trivial⟩
      case measure=>simp only[intOf,P];omega
theorem Ov:(prog.info? 307).map (fun i=>(i.zero,i.size,i.bytes))=some (some (.agg #[I_ 0,I_ 0,I_ 0,.string ⟨#[]⟩]),4,40):=by kernel_rfl
def Rf(w:World)(e:Ending)(w':World):Prop:=∃ (a:Option Addr) (n c:Nat),e=.returned (.slice a n c)/\K_ w w'
def qV(a x f:Int)(s:List UInt8):List Value:=[I_ a,I_ x,I_ f,S_ s]
theorem Ow(w:World)(a x f:Int)(s:List UInt8):∀ j u,(qV a x f s)[j]?=some u->(w.alloc (.cells #[I_ a,I_ x,I_ f,S_ s] 307)).cell? ((⟨w.heap.size,0,none⟩:Addr).add j)=some u:=by
 intro j u b;rw[Addr.add_lit,Nat.zero_add];refine cp (cx _ _) ?_;simpa[qV] using b
theorem Rg(a x f:Int)(s:List UInt8):∀ u ∈ qV a x f s,u.oneCell'=true:=by
 intro u b;simp[qV]at b;rcases b with rfl | rfl | rfl | rfl <;> rfl
theorem JS(w:World)(b y:Nat)(m:Mem)(u:Int)(h:qJ w b y m):Calls prog 258 #[cD b,I_ u] w (Rf w):=by
 have ad:=h.le;have U:=h.cell;have r:=h_ (qU w b y m u h);have s:=m.fh u;generalize m.cell u=q at r s;obtain⟨O,z⟩:=q;dsimp only at s r;go_enter func258,ntmps258;go_wp2_with fail;refine eD r.out ?_;by_cases A:z=0
 . have T:(z != 0)=false:=by simp[A]
   clear A r;go_wp2_with fail;clear U
   go_loopw [5,7,8] (fun P Z C wr=>∃ (n:Nat) (V:List Value) (a:Option Addr) (c:Nat) (d p:Int),Z=.slice a n c/\P=I_ d/\C=I_ p/\fp wr 307 4 a n c V/\(∀ g,dF a=some g->w.heap.size<=g)/\K_ w wr/\p<=4194304/\(n:Int)+p<=4194304/\(-9223372036854775808<=d/\d<=9223372036854775807))
    (fun _ _ C _=>(intOf C).toNat)
   case atStart=>exact⟨0,[],none,0,O,m.size,rfl,rfl,rfl,fp.nil _ _ _,by simp[dF],cq.refl _ _,by omega,by omega,s⟩
   case round =>
    obtain⟨n,V,a,c,d,p,rfl,rfl,rfl,G,F,o,hl,ae,aa,ab⟩:=hrel;clear s;by_cases R:0<d
    . by_cases S:d<p
      . have H:=h_ (Ou wr b y m d (h.ct o id id) (by omega) (by omega))
        go_wp2_with fail;refine H.out.mono ?_;rintro e v ⟨f,l,j,xl,k,xk,rfl,t,W,X⟩;have ac:w.heap.size<=v.heap.size:=(o.trans t).size;have x:=dR v (.cells #[I_ f,I_ l,I_ j,S_ k] 307);have D:=(o.trans t).trans x;have M:=(G.ct t (fun _ _=>id)).ct x (fun _ _=>id);have N:=M.ct (dR _ (.cells #[I_ f,I_ l,I_ j,S_ k] 307)) (fun _ _=>id);clear t x G o H;cases xk with
        | false =>
         go_wp2;go_ret;exact⟨_,_,_,rfl,D⟩
        | true =>
         go_wp2_with (first
          | (at_builtin;refine eB rfl _ _ 322 rfl 307 _ 4 40 underlying322 Ov rfl (by decide) a n c V rfl N ⟨v.heap.size+1,0,none⟩ 1 1 (qV f l j k) rfl rfl ?c1 (Rg f l j k) ?c3 ?c4 ?_))
         case c1 =>
          have:=Ow (v.alloc (.cells #[I_ f,I_ l,I_ j,S_ k] 307)) f l j k;rw[World.size_alloc]at this;exact this
         case c3=>unfold maxLen;omega
         case c4=>omega
         intro E Q w3 Y I J;have K:=((D.trans (dR _ (.cells #[I_ f,I_ l,I_ j,S_ k] 307))).dh I (fun i hi e=>absurd (F i e) (by omega)))
         have L:=(show ∀ g,dF E=some g->w.heap.size<=g from fun g B=>by
          rcases J with e | e
          . exact F g (e ▸ B)
          . rw[e]at B
            have:=Option.some.inj B
            (try simp only[World.size_alloc]at this)
            omega)
         clear I J;go_wp2;go_roundw;case rel=>exact⟨n+1,_,E,Q,xl,d,rfl,rfl,rfl,Y,L,K,by omega,by omega,W,X⟩
         case measure=>simp[intOf];omega
      . have d2:decide (d<p)=false:=decide_eq_false (by omega)
        clear S;go_wp2;go_ret;exact⟨_,_,_,rfl,o⟩
    . have d1:decide (0<d)=false:=decide_eq_false (by omega)
      clear R;go_wp2;go_ret;exact⟨_,_,_,rfl,o⟩
 . have T:(z != 0)=true:=by simp[A]
   go_wp2;go_ret;exact⟨_,_,_,rfl,cq.refl _ _⟩
structure lY(w:World)(s b bb:Nat)(x:Sp):Prop where
 head:w.heap[s]?=some (.cells #[cD b,I_ x.lo,I_ x.to,I_ x.cu] 158 (0,0))
 mem:qJ w b bb x.mem
 yF:s≠b
 sT:s≠bb
 ok:x.Ok
namespace lY
variable {w w':World} {s b bb:Nat} {x:Sp}
theorem ct(h:lY w s b bb x){S:Nat->Prop}(k:cq S w w')(a:¬ S s)(c:¬ S b)(d:¬ S bb):lY w' s b bb x :=
 ⟨k.heap h.head a,h.mem.ct k c d,h.yF,h.sT,h.ok⟩
theorem c0(h:lY w s b bb x):w.cell? ⟨s,0,none⟩=some (cD b):=cp h.head rfl
theorem c2(h:lY w s b bb x):w.cell? ⟨s,2,none⟩=some (I_ x.to):=cp h.head rfl
theorem c3(h:lY w s b bb x):w.cell? ⟨s,3,none⟩=some (I_ x.cu):=cp h.head rfl
theorem f(h:lY w s b bb x)(i:Nat):w.frozen? ⟨s,i,none⟩=false:=cB h.head
theorem bd(h:lY w s b bb x):0<=x.lo/\x.lo<=x.cu/\x.cu<=x.to/\x.to<=4194304:=by
 obtain⟨a,c,d,e⟩:=h.ok;have:=h.mem.le;exact⟨a,c,d,by omega⟩
theorem dI(h:lY w s b bb x){m:Mem}(a:qJ w' b bb m)(c:m.size=x.mem.size)(k:cq (fun j=>j=bb) w w'):lY w' s b bb { x with mem:=m } :=
 ⟨k.heap h.head h.sT,a,h.yF,h.sT,h.ok.1,h.ok.2.1,h.ok.2.2.1,by show x.to<=m.size;rw[c];exact h.ok.2.2.2⟩
theorem oK(h:lY w s b bb x)(n:Int)(a:x.lo<=n)(c:n<=x.to):lY (w.setCell ⟨s,3,none⟩ (I_ n)) s b bb { x with cu:=n } :=
 ⟨cz h.head _,h.mem.ct (cq.setCell (S:=fun j=>j=s) _ _ _ (fun _=>rfl)) (fun e=>h.yF e.symm) (fun e=>h.sT e.symm),h.yF,h.sT,h.ok.1,a,c,h.ok.2.2.2⟩
end lY
theorem ES(w:World)(s b bb:Nat)(x:Sp)(n:Int)(h:lY w s b bb x):Calls prog 366 #[cD s,I_ n] w fun e w'=>e=.returned (.bool (decide (n<=x.to-x.cu)))/\K_ w w':=by
 have g:=h.c2;have i:=h.c3;obtain⟨a,c,d,f⟩:=h.bd;have j:IntKind.i64.wrap (x.to-x.cu)=x.to-x.cu:=IntWalk.i64_in _ (by omega);have k:wrap64 (x.to-x.cu)=x.to-x.cu:=IntWalk.wrap64_in _ (by omega);clear h;go_enter func366,ntmps366;go_wp2_with fail;go_region
 go_wp2;go_ret;exact⟨rfl,cq.drew _ _⟩
theorem Sp.CM{x:Sp}{n:Int}(h:(x.cN n).2=0):8<=x.to-x.cu/\(x.mem.setCell x.cu n).2=0/\(x.cN n).1={ x with mem:=(x.mem.setCell x.cu n).1,cu:=x.cu+8 }:=by
 unfold Sp.cN Sp.put at h |-;split at h
 . rename_i c
   rw[if_pos c];split at h
   . rename_i a;exact absurd h a
   . rename_i a
     rw[if_neg a];unfold Sp.gA at h |-;split at h
     . cases h
     . rename_i d
       rw[if_neg d];exact⟨c,by simpa using a,rfl⟩
 . unfold Sp.gA at h
   split at h
   . cases h
   . rename_i c d;exfalso;omega
theorem Sp.CN{x:Sp}{t:List UInt8}(h:(x.jl t).2=0):(t.length:Int)<=x.to-x.cu/\(x.mem.cS x.cu t).2=0/\(x.jl t).1={ x with mem:=(x.mem.cS x.cu t).1,cu:=x.cu+t.length }:=by
 unfold Sp.jl Sp.put at h |-;split at h
 . rename_i c
   rw[if_pos c];split at h
   . rename_i a;exact absurd h a
   . rename_i a
     rw[if_neg a];unfold Sp.gA at h |-;split at h
     . cases h
     . rename_i d
       rw[if_neg d];exact⟨c,by simpa using a,rfl⟩
 . unfold Sp.gA at h
   split at h
   . cases h
   . rename_i c d;exfalso;omega
def GM(s b bb:Nat)(x:Sp)(w:World)(e:Ending)(w':World):Prop:=e=.returned (I_ 0)/\lY w' s b bb x/\cq (fun k=>k=s\/k=bb) w w'
theorem kb(w:World)(s b bb:Nat)(x:Sp)(n:Int)(z:(x.cN n).2=0)(h:lY w s b bb x):Calls prog 213 #[cD s,I_ n] w (GM s b bb (x.cN n).1 w):=by
 obtain⟨j,v,y⟩:=Sp.CM z;rw[y];have p:=ES w s b bb x 8 h;rw[decide_eq_true j]at p;have i:=fun V (K:lY V s b bb x)=>qj V b bb x.mem x.cu n K.mem;rw[v]at i;have q:=Mem.cQ x.mem x.cu n;generalize (x.mem.setCell x.cu n).1=m at i q |-;obtain⟨G,t,H,I⟩:=h.bd;have o:=And.intro t j;have M:wrap64 (x.cu+8)=x.cu+8:=IntWalk.wrap64_in _ (by omega);clear z j v y G t H I;go_enter func213,ntmps213;go_wp2_with fail;refine p.mono ?_;rintro e a ⟨rfl,A⟩;have c:=h.ct A id id id;have J:=c.c0;have u:=c.c3;go_wp2_with fail;go_still_tail 9,(by kernel_rfl);change wpList _ _ _ _ _ a.drew;have d:=c.ct (fw a) id id id;have r:=A.trans (fw a);generalize a.drew=N at d r |-;clear J u;go_wp2_with fail;refine(i _ d).mono ?_;rintro e C ⟨rfl,B,l⟩;have g:=d.dI B q l;have E:=(r.mono (T:=fun k=>k=s\/k=bb) (fun _ _ e=>e.elim)).trans (l.mono (fun _ _ e=>.inr e));have u:C_ C s 3=some (I_ x.cu):=g.c3;have L:=g.f 3;clear B l;have D:=(g.oK (x.cu+8) (by show x.lo<=_;have:=o;omega) (by show _<=x.to;have:=o;omega));have F:=E.trans ((cq.setCell (S:=fun k=>k=s) C ⟨s,3,none⟩ (I_ (x.cu+8)) (fun _=>rfl)).mono (fun _ _ e=>.inl e));go_wp2;go_ret;exact⟨rfl,D,F⟩
theorem Ah(w:World)(s b bb:Nat)(x:Sp)(t:List UInt8)(L:t.length<=4194304)(z:(x.jl t).2=0)(h:lY w s b bb x):Calls prog 369 #[cD s,S_ t] w (GM s b bb (x.jl t).1 w):=by
 obtain⟨j,v,y⟩:=Sp.CN z;rw[y];have o:=ES w s b bb x t.length h;rw[decide_eq_true j]at o;have i:=fun V (K:lY V s b bb x)=>CL V b bb x.mem x.cu t K.mem L;rw[v]at i;have p:=Mem.eh x.mem x.cu t;generalize (x.mem.cS x.cu t).1=m at i p |-;obtain⟨G,r,H,I⟩:=h.bd;have n:=And.intro r j;have N:wrap64 (x.cu+t.length)=x.cu+t.length:=IntWalk.wrap64_in _ (by omega);clear z j v y G r H I;go_enter func369,ntmps369;go_wp2_with fail;refine o.mono ?_;rintro e a ⟨rfl,A⟩;have c:=h.ct A id id id;have J:=c.c0;have u:=c.c3;go_wp2_with fail;go_still_tail 9,(by kernel_rfl);change wpList _ _ _ _ _ a.drew;have d:=c.ct (fw a) id id id;have q:=A.trans (fw a);generalize a.drew=O at d q |-;clear J u;go_wp2_with fail;refine(i _ d).mono ?_;rintro e C ⟨rfl,B,l⟩;have g:=d.dI B p l;have E:=(q.mono (T:=fun k=>k=s\/k=bb) (fun _ _ e=>e.elim)).trans (l.mono (fun _ _ e=>.inr e));have u:C_ C s 3=some (I_ x.cu):=g.c3;have M:=g.f 3;clear B l;have D:=(g.oK (x.cu+t.length) (by show x.lo<=_;have:=n;omega) (by show _<=x.to;have:=n;omega));have F:=E.trans ((cq.setCell (S:=fun k=>k=s) C ⟨s,3,none⟩ (I_ (x.cu+t.length)) (fun _=>rfl)).mono (fun _ _ e=>.inl e));go_wp2;go_ret;exact⟨rfl,D,F⟩
theorem Sp.JT(x:Sp):x.jl [0]=x.char 0:=by
 unfold Sp.jl Sp.char;have:x.mem.cS x.cu [0]=x.mem.Yo x.cu 0:=rfl;rw[this];rfl
theorem Sp.CO{x:Sp}(h:x.align.2=0)(a:x.cu % 8≠0):(x.char 0).2=0:=by
 by_cases e:(x.char 0).2=0
 . exact e
 . exfalso
   unfold Sp.align at h;rw[Sp.fD,if_neg a,if_pos e]at h;exact e h
theorem uL(w:World)(s b bb:Nat)(x:Sp)(v:x.align.2=0)(h:lY w s b bb x):Calls prog 367 #[cD s] w (GM s b bb x.align.1 w):=by
 go_enter func367,ntmps367;go_wp2_with fail
 go_loopw [2,3] (fun _ _ wr=>∃ y:Sp,y.align=x.align/\lY wr s b bb y/\cq (fun k=>k=s\/k=bb) w wr)
  (fun _ _ wr=>match C_ wr s 3 with | some (.int _ n)=>((8-n % 8) % 8).toNat | _=>0)
 case atStart=>exact⟨x,rfl,h,cq.refl _ _⟩
 case round =>
  obtain⟨y,f,d,o⟩:=hrel;have t:=d.c3;obtain⟨B,C,D,E⟩:=d.bd;have F:y.cu.tmod 8=y.cu % 8:=Int.tmod_eq_emod_of_nonneg (by omega);by_cases a:y.cu % 8=0
  . have m:(y.cu % 8 != 0)=false:=by simp[a]
    have A:y.align=(y,0):=by unfold Sp.align;rw[Sp.fD,if_pos a]
    clear a;go_wp2;go_ret;rw[<- f,A];exact⟨rfl,d,o⟩
  . have m:(y.cu % 8 != 0)=true:=by simp[a]
    have c:(y.char 0).2=0:=Sp.CO (by rw[f];exact v) a;have g:=(Ah wr s b bb y [0] (by decide) (by rw[Sp.JT];exact c) d);rw[Sp.JT]at g;have z:=h_ (Sp.um y a c);have u:=Sp.pt 0 c;have p:=t;clear c a;go_wp2_with fail;refine g.mono ?_;rintro e G ⟨rfl,j,l⟩;have r:=o.trans l;have q:=j.c3;clear l;go_wp2;go_roundw;case rel=>exact⟨_,by rw[<- f,z.out],j,r⟩
    case measure =>
     have i:=q;rw[u]at i;simp only[p,i];have:¬ y.cu % 8=0:=by simpa using m
     omega
end Go.Proofs.dS
