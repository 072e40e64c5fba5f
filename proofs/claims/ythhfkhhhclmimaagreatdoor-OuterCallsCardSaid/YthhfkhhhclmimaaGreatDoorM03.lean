/- Of CallsG: WMem, WMemB, WMemC, WSpace, WSpaceB, WSpaceC, WSpaceD, WTable, WTableB, WCode, VmS, WRevB. No condition. -/
import Derived.Test.YthhfkhhhclmimaaGreatDoorM02
import Derived.Test.YthhfkhhhclmimaaGreatDoorM01
import Derived.Test.YthhfkhhhclmimaaGreatDoorProg
set_option linter.unusedVariables false
set_option linter.unusedSimpArgs false
set_option maxRecDepth 10000
namespace Go.Proofs.Shed
open Go Go.RowKit Go.Proofs.K
def Mem.vals (m:Mem):Array Value:=((List.range m.size).map fun i=>Value.int .u8 (m.byte i)).toArray
theorem Mem.vals_size (m:Mem):m.vals.size=m.size:=by simp [Mem.vals]
theorem Mem.vals_get (m:Mem) (i:Nat) (h:i<m.size):m.vals[i]?=some (.int .u8 (m.byte i)):=by simp [Mem.vals,h]
theorem Mem.vals_set (m:Mem) (i v:Nat) (hv:v<256):m.vals.setIfInBounds i (.int .u8 v)=(m.put i 1 v).vals:=by
 apply Array.ext
 · simp [Mem.vals_size,Mem.put_size]
 · intro j h1 h2
   have hj:j<m.size:=by simpa [Mem.vals_size] using h1
   rw [Array.getElem_setIfInBounds]
   · have e1:m.vals[j]'(by simpa [Mem.vals_size] using hj)=.int .u8 (m.byte j):=by
      have:=m.vals_get j hj;rw [Array.getElem?_eq_getElem (by simpa [Mem.vals_size] using hj)] at this
      exact Option.some.inj this
     have e2:(m.put i 1 v).vals[j]=.int .u8 ((m.put i 1 v).byte j):=by
      have:=(m.put i 1 v).vals_get j hj;rw [Array.getElem?_eq_getElem h2] at this;exact Option.some.inj this
     rw [e2];by_cases hij:i=j
     · subst hij
       rw [if_pos rfl,Mem.byte,Mem.get_put_same];have:v % 2 ^ (8*1)=v:=by omega
       rw [this]
     · rw [if_neg hij,e1,Mem.byte,Mem.byte,Mem.get_put_apart _ _ _ _ _ _ (by omega)]
   · simpa [Mem.vals_size] using hj
structure RMem (w:World) (b bb:Nat) (m:Mem):Prop where
 head:w.heap[b]?=some (.cells #[.slice (some ⟨bb,0,none⟩) m.size m.size] 260 (0,0))
 rest:w.heap[bb]?=some (.cells m.vals 5 (0,0))
 ne:b≠bb
 le:m.size≤4194304
theorem RMem.cell {w:World} {b bb:Nat} {m:Mem} (h:RMem w b bb m):w.cell? ⟨b,0,none⟩=some (.slice (some ⟨bb,0,none⟩) m.size m.size):=cell_of h.head rfl
theorem RMem.byte {w:World} {b bb:Nat} {m:Mem} (h:RMem w b bb m) {i:Nat} (hi:i<m.size):w.cell? ⟨bb,i,none⟩=some (.int .u8 (m.byte i)):=cell_of h.rest (m.vals_get i hi)
theorem RMem.keeps {w w':World} {b bb:Nat} {m:Mem} (h:RMem w b bb m) {S:Nat→Prop} (k:Keeps S w w') (h1:¬ S b) (h2:¬ S bb):RMem w' b bb m:=⟨k.heap h.head h1,k.heap h.rest h2,h.ne,h.le⟩
theorem RMem.drewN {w:World} {b bb:Nat} {m:Mem} (h:RMem w b bb m) (n:Nat):RMem (w.drewN n) b bb m:=⟨h.head,h.rest,h.ne,h.le⟩
theorem RMem.lt {w:World} {b bb:Nat} {m:Mem} (h:RMem w b bb m):b<w.heap.size∧bb<w.heap.size:=⟨lt_of_heap h.head,lt_of_heap h.rest⟩
theorem ret_int {k:IntKind} {a b:Int} (h:a=b):Ending.returned (.int k a)=.returned (.int k b):=by rw [h]
theorem mem_size (w:World) (b bb:Nat) (m:Mem) (h:RMem w b bb m) :
 Calls Tryz.prog 93 #[.pointer (some ⟨b,0,none⟩)] w fun e w'=>e=.returned (.int .i64 m.size)∧w=w':=by
 have h0:=h.cell
 go_enter Tryz.func93,Tryz.ntmps93
 go_wp2
 go_ret
 exact ⟨rfl,rfl⟩
theorem mem_has (w:World) (b bb:Nat) (m:Mem) (a n:Int) (h:RMem w b bb m) :
 Calls Tryz.prog 158 #[.pointer (some ⟨b,0,none⟩),.int .i64 a,.int .i64 n] w fun e w'=>e=.returned (.bool (m.has a n))∧w=w':=by
 have H:=h_ h;have hl:=h.le;clear h;have HD:Hid (m.has a n=(decide (0≤n) && decide (0≤a) && decide (n≤m.size) && decide (a≤m.size-n))):=rfl;generalize m.has a n=r at HD ⊢;by_cases h1:0≤n
 · by_cases h2:0≤a
   · by_cases h3:n≤m.size
     · go_enter Tryz.func158,Tryz.ntmps158
       go_wp2_with fail;refine (mem_size _ _ _ _ H.out).mono ?_;rintro e w1 ⟨rfl,rfl⟩;go_wp2_with fail;refine (mem_size _ _ _ _ H.out).mono ?_;rintro e w1 ⟨rfl,rfl⟩;go_wp2_with fail;go_ret
       refine ⟨?_,rfl⟩;rw [HD.out];simp [h1,h2,h3]
     · have h3':(m.size:Int)<n:=by omega
       go_enter Tryz.func158,Tryz.ntmps158
       go_wp2_with fail;refine (mem_size _ _ _ _ H.out).mono ?_;rintro e w1 ⟨rfl,rfl⟩;go_wp2_with fail;go_ret
       refine ⟨?_,rfl⟩;rw [HD.out];simp
       omega
   · have h2':a<0:=by omega
     go_enter Tryz.func158,Tryz.ntmps158
     go_wp2_with fail;go_ret
     refine ⟨?_,rfl⟩;rw [HD.out];simp
     omega
 · have h1':n<0:=by omega
   go_enter Tryz.func158,Tryz.ntmps158
   go_wp2_with fail;go_ret
   refine ⟨?_,rfl⟩;rw [HD.out];simp
   omega
theorem mem_at (w:World) (b bb:Nat) (m:Mem) (a:Int) (h:RMem w b bb m) :
 Calls Tryz.prog 146 #[.pointer (some ⟨b,0,none⟩),.int .i64 a] w fun e w'=>e=.returned (.int .i64 (m.at_ a))∧w=w':=by
 have H:=h_ h;clear h;have HD:Hid (m.at_ a=if m.has a 8 then (if a % 8=0 then 0 else -23) else -9):=rfl
 have HI:=h_ (m.has_iff a 8);have hc:=fun w H=>mem_has w b bb m a 8 H
 generalize m.at_ a=r at HD ⊢;generalize m.has a 8=q at hc HI HD;have HC:=h_ hc;clear hc
 cases q with
 | false =>
  go_enter Tryz.func146,Tryz.ntmps146
  go_wp2_with fail;refine (HC.out _ H.out).mono ?_;rintro e w1 ⟨rfl,rfl⟩;go_wp2_with fail;go_ret
  exact ⟨ret_int (by rw [HD.out];rfl),rfl⟩
 | true =>
  have ha:0≤a:=by have:=HI.out.1 rfl;omega
  go_enter Tryz.func146,Tryz.ntmps146
  go_wp2_with fail;refine (HC.out _ H.out).mono ?_;rintro e w1 ⟨rfl,rfl⟩;by_cases h8:a % 8=0
  · have h8':(a % 8 != 0)=false:=by simp [h8]
    go_wp2_with fail;go_ret
    exact ⟨ret_int (by rw [HD.out];simp [h8]),rfl⟩
  · have h8':(a % 8 != 0)=true:=by simp [h8]
    go_wp2_with fail;go_ret
    exact ⟨ret_int (by rw [HD.out];simp [h8]),rfl⟩
theorem cell_step (m:Mem) (a k:Nat) (hk:k<8):bits .or .u64 (m.get a k:Int) (IntKind.u64.wrap (IntKind.u64.wrap (m.byte (a+k):Int)*2 ^ (8*k)))=(m.get a (k+1):Nat):=by
 have h1:=m.byte_lt (a+k)
 have h2:m.byte (a+k)*2 ^ (8*k)<2 ^ 64:=by
  have:2 ^ (8*k)≤2 ^ 56:=Nat.pow_le_pow_right (by omega) (by omega)
  calc m.byte (a+k)*2 ^ (8*k)≤255*2 ^ 56:=Nat.mul_le_mul (by omega) this
   _<2 ^ 64:=by decide
 have h3:=m.get_lt a k;have h4:(2:Nat) ^ (8*k)≤2 ^ 56:=Nat.pow_le_pow_right (by omega) (by omega)
 rw [IntWalk.u64_in (m.byte (a+k):Int) (by omega)]
 have e:((m.byte (a+k):Nat):Int)*2 ^ (8*k)=((m.byte (a+k)*2 ^ (8*k):Nat):Int):=by
  rw [Int.natCast_mul,Int.natCast_pow];rfl
 rw [e,IntWalk.u64_in _ (by omega),bits_or_u64_nat _ _ (by omega) (by omega),Mem.get_succ,Nat.shiftLeft_eq]
theorem s64_wrap (u:Nat) (h:u<18446744073709551616):wrap64 (u:Int)=s64 u:=by
 unfold wrap64 s64;split <;> omega
theorem mem_cell (w:World) (b bb:Nat) (m:Mem) (a:Int) (h:RMem w b bb m) :
 Calls Tryz.prog 81 #[.pointer (some ⟨b,0,none⟩),.int .i64 a] w fun e w'=>e=.returned (.tuple #[.int .i64 (m.cell a).1,.int .i64 (m.cell a).2])∧w=w':=by
 have H:=h_ h;have h0:=h.cell;have hle:=h.le;clear h;have hca:=fun w H=>mem_at w b bb m a H
 have HD:Hid (m.cell a=if m.at_ a=0 then (s64 (m.get a.toNat 8),0) else (0,m.at_ a)):=rfl
 have HZ:=h_ (m.at_zero a);have hcs:=m.at_cases a;generalize m.at_ a=q at hca HD HZ hcs;have HC:=h_ hca;clear hca;generalize m.cell a=r at HD ⊢;obtain ⟨r1,r2⟩:=r;by_cases hq:q=0
 · obtain ⟨z1,z2,z3⟩:=HZ.out.1 hq
   obtain ⟨k0,rfl⟩:∃ k0:Nat,a=k0:=⟨a.toNat,by omega⟩
   have hr:(r1,r2)=(s64 (m.get k0 8),0):=by rw [HD.out,if_pos hq];rfl
   obtain ⟨rfl,rfl⟩:=Prod.mk.inj hr;subst hq;clear HD HZ hcs hr
   go_enter Tryz.func81,Tryz.ntmps81
   go_wp2_with fail;refine (HC.out _ H.out).mono ?_;rintro e w1 ⟨rfl,rfl⟩;have b1:(k0:Int)+8≤m.size:=by omega
   go_wp2_with fail
   go_loop [7,25] (fun n i=>∃ k:Nat,k≤8∧i=.int .i64 k∧n=.int .u64 (m.get k0 k:Nat)) (fun _ i=>8-(intOf i).toNat)
   case atStart=>exact ⟨0,Nat.zero_le _,rfl,by rw [Mem.get_zero];rfl⟩
   case round =>
    obtain ⟨k,hk,rfl,rfl⟩:=hrel;by_cases hlt:k<8
    · have c1:w.cell? ⟨bb,k0+k,none⟩=some (.int .u8 (m.byte (k0+k))):=H.out.byte (by omega)
      have c2:(k:Int)<8:=by omega
      go_wp2_with fail
      go_round
      case rel=>exact ⟨k+1,by omega,by go_num,by rw [cell_step m k0 k hlt]⟩
      case measure=>simp [intOf];omega
    · have e8:k=8:=by omega
      subst e8;go_wp2_with fail;go_ret2
      refine ⟨?_,rfl⟩
      show Ending.returned (.tuple #[.int .i64 (wrap64 _),.int .i64 0])=_
      rw [s64_wrap _ (by have:=m.get_lt k0 8;simpa using this)]
 · have hr:(r1,r2)=(0,q):=by rw [HD.out,if_neg hq]
   obtain ⟨rfl,rfl⟩:=Prod.mk.inj hr;have hq':(r2 != 0)=true:=by simp [hq]
   go_enter Tryz.func81,Tryz.ntmps81
   go_wp2_with fail;refine (HC.out _ H.out).mono ?_;rintro e w1 ⟨rfl,rfl⟩;go_wp2_with fail;go_ret2
   exact ⟨rfl,rfl⟩
theorem RMem.put1 {w:World} {b bb:Nat} {m:Mem} (h:RMem w b bb m) (i v:Nat) (hv:v<256):RMem (w.setCell ⟨bb,i,none⟩ (.int .u8 v)) b bb (m.put i 1 v) :=
 ⟨(Below.heap_setCell _ _ _ _ h.ne).trans h.head,by rw [← Mem.vals_set m i v hv];exact hset_same h.rest _,h.ne,h.le⟩
theorem shr_u8 (n:Int) (k:Nat):IntKind.u64.wrap n / 2 ^ (8*k) % 256=(((u64 n >>> (8*k)) % 256:Nat):Int):=by
 have hN:((u64 n:Nat):Int)=n % 18446744073709551616:=by unfold u64;omega
 rw [IntKind.wrap_u64,← hN,Nat.shiftRight_eq_div_pow]
 norm_cast
theorem Mem.put_mod (m:Mem) (a n v:Nat):m.put a n (v % 2 ^ (8*n))=m.put a n v:=by
 unfold Mem.put;rw [Nat.mod_mod]
def SetPost (b bb:Nat) (r:Mem × Int) (w:World) (e:Ending) (w':World):Prop :=
 e=.returned (.int .i64 r.2)∧RMem w' b bb r.1∧Keeps (fun k=>k=bb) w w'
theorem mem_setCell (w:World) (b bb:Nat) (m:Mem) (a n:Int) (h:RMem w b bb m) :
 Calls Tryz.prog 85 #[.pointer (some ⟨b,0,none⟩),.int .i64 a,.int .i64 n] w (SetPost b bb (m.setCell a n) w):=by
 have H:=h_ h;have hle:=h.le;clear h;have hca:=fun w H=>mem_at w b bb m a H
 have HD:Hid (m.setCell a n=if m.at_ a=0 then (m.put a.toNat 8 (u64 n),0) else (m,m.at_ a)):=rfl
 have HZ:=h_ (m.at_zero a);have hcs:=m.at_cases a;generalize m.at_ a=q at hca HD HZ hcs;have HC:=h_ hca;clear hca;generalize m.setCell a n=r at HD ⊢;by_cases hq:q=0
 · obtain ⟨z1,z2,z3⟩:=HZ.out.1 hq
   obtain ⟨k0,rfl⟩:∃ k0:Nat,a=k0:=⟨a.toNat,by omega⟩
   have hr:r=(m.put k0 8 (u64 n),0):=by rw [HD.out,if_pos hq];rfl
   subst hq;subst hr;clear HD HZ hcs;have h0:=H.out.cell
   go_enter Tryz.func85,Tryz.ntmps85
   go_wp2_with fail;refine (HC.out _ H.out).mono ?_;rintro e w1 ⟨rfl,rfl⟩;have b1:(k0:Int)+8≤m.size:=by omega
   go_wp2_with fail
   go_loopw [24] (fun i wr=>∃ k:Nat,k≤8∧i=.int .i64 k∧RMem wr b bb (m.put k0 k (u64 n))∧Keeps (fun k=>k=bb) w wr) (fun i _=>8-(intOf i).toNat)
   case atStart=>exact ⟨0,Nat.zero_le _,rfl,by rw [Mem.put_zero];exact H.out,Keeps.refl _ _⟩
   case round =>
    obtain ⟨k,hk,rfl,hm,hw⟩:=hrel;by_cases hlt:k<8
    · have c0:wr.cell? ⟨b,0,none⟩=some (.slice (some ⟨bb,0,none⟩) m.size m.size):=hm.cell
      have c1:wr.cell? ⟨bb,k0+k,none⟩=some (.int .u8 ((m.put k0 k (u64 n)).byte (k0+k))):=hm.byte (by rw [Mem.put_size];omega)
      have f1:wr.frozen? ⟨bb,k0+k,none⟩=false:=free_of hm.rest;have c2:(k:Int)<8:=by omega
      have c3:(0:Int)≤k:=by omega
      have c4:(k0:Int)+k<m.size:=by omega
      have c5:(0:Int)≤(k0:Int)+k:=by omega
      have c6:IntKind.i64.wrap ((k0:Int)+k)=(k0:Int)+k:=IntWalk.i64_in _ (by omega)
      have c7:IntKind.i64.wrap (8*(k:Int))=8*(k:Int):=IntWalk.i64_in _ (by omega)
      have c8:((k0:Int)+k).toNat=k0+k:=by omega
      have HM:=h_ hm;clear hm;go_wp2_with fail
      go_region
      have hw2:=HM.out.put1 (k0+k) ((u64 n >>> (8*k)) % 256) (Nat.mod_lt _ (by decide))
      rw [← shr_u8,show (u64 n >>> (8*k)) % 256=(u64 n >>> (8*k)) % 2 ^ (8*1) from rfl,Mem.put_mod,← Mem.put_succ] at hw2
      have HW:=h_ hw2;have HK:Hid (Keeps (fun k=>k=bb) w (wr.setCell ⟨bb,k0+k,none⟩ (.int .u8 (IntKind.u64.wrap n / 2 ^ (8*k) % 256)))):=hw.trans (Keeps.setCell _ _ _ (fun _=>rfl))
      clear hw2 hw HM;go_wp2_with fail
      go_roundw
      case rel=>exact ⟨k+1,by omega,by go_num,⟨HW.out.head,HW.out.rest,HW.out.ne,HW.out.le⟩,HK.out.trans (Keeps.drew _ _)⟩
      case measure=>simp [intOf];omega
    · have e8:k=8:=by omega
      subst e8;go_wp2_with fail;go_ret
      exact ⟨rfl,hm,hw⟩
 · have hr:r=(m,q):=by rw [HD.out,if_neg hq]
   subst hr;have hq':(q != 0)=true:=by simp [hq]
   go_enter Tryz.func85,Tryz.ntmps85
   go_wp2_with fail;refine (HC.out _ H.out).mono ?_;rintro e w1 ⟨rfl,rfl⟩;go_wp2_with fail;go_ret
   exact ⟨rfl,H.out,Keeps.refl _ _⟩
theorem u8_of (n:Int):(((u64 n) % 256:Nat):Int)=n % 256:=by unfold u64;omega
theorem mem_setByte (w:World) (b bb:Nat) (m:Mem) (a n:Int) (h:RMem w b bb m) :
 Calls Tryz.prog 329 #[.pointer (some ⟨b,0,none⟩),.int .i64 a,.int .i64 n] w (SetPost b bb (m.setByte a n) w):=by
 have H:=h_ h;have hle:=h.le;have h0:=h.cell;have hf:=fun i=>free_of (i:=i) h.rest
 have hby:=fun i hi=>h.byte (i:=i) hi
 clear h;have HD:Hid (m.setByte a n=if m.has a 1 then (m.put a.toNat 1 (u64 n),0) else (m,-9)):=rfl
 have hc:=fun w H=>mem_has w b bb m a 1 H
 have HI:=h_ (m.has_iff a 1);generalize m.has a 1=q at hc HI HD;have HC:=h_ hc;clear hc;generalize m.setByte a n=r at HD ⊢
 cases q with
 | false =>
  have hr:r=(m,-9):=HD.out;subst hr;clear HD hby hf
  go_enter Tryz.func329,Tryz.ntmps329
  go_wp2_with fail;refine (HC.out _ H.out).mono ?_;rintro e w1 ⟨rfl,rfl⟩;go_wp2_with fail;go_ret
  exact ⟨rfl,H.out,Keeps.refl _ _⟩
 | true =>
  have ha:=HI.out.1 rfl;obtain ⟨k,rfl⟩:∃ k:Nat,a=k:=⟨a.toNat,by omega⟩
  have hr:r=(m.put k 1 (u64 n),0):=HD.out;subst hr;have c1:=hby k (by omega)
  have f1:=hf k;have b1:(k:Int)<m.size:=by omega
  have b2:(0:Int)≤k:=by omega
  clear HD hby hf ha
  go_enter Tryz.func329,Tryz.ntmps329
  go_wp2_with fail;refine (HC.out _ H.out).mono ?_;rintro e w1 ⟨rfl,rfl⟩;go_wp2_with fail;go_ret
  refine ⟨rfl,?_,Keeps.setCell _ _ _ (fun _=>rfl)⟩
  have h1:=H.out.put1 k (u64 n % 256) (Nat.mod_lt _ (by decide))
  rw [u8_of,show u64 n % 256=u64 n % 2 ^ (8*1) from rfl,Mem.put_mod] at h1
  exact h1
theorem leN_shift (l:List UInt8) (i:Nat) (h:i<l.length):(leN l >>> (8*i)) % 256=l[i].toNat:=by
 have:=bytesN_get l.length (leN l) i (by rw [bytesN_len];exact h)
 rw [← this];congr 1
 have e:=bytesN_leN l;exact (List.getElem_of_eq e _)
theorem Mem.vals_text (m:Mem) (k:Nat) (s:List UInt8) (h:k+s.length≤m.size) :
 (m.vals.toList.take k++(s.map fun b=>Value.int .u8 b.toNat)++m.vals.toList.drop (k+s.length)).toArray=(m.put k s.length (leN s)).vals:=by
 apply Array.ext'
 apply List.ext_getElem?
 intro i;have hv:∀ (m:Mem) i,i<m.size→m.vals.toList[i]?=some (.int .u8 (m.byte i)):=fun m i hi=>by rw [Array.getElem?_toList];exact m.vals_get i hi
 have hn:∀ (m:Mem) i,m.size≤i→m.vals.toList[i]?=none:=fun m i hi=>by rw [Array.getElem?_toList];exact Array.getElem?_eq_none (by rw [Mem.vals_size];exact hi)
 have hlen:m.vals.toList.length=m.size:=by rw [Array.length_toList,Mem.vals_size]
 rw [List.getElem?_append,List.getElem?_append];simp only [List.length_append,List.length_take,List.length_map,hlen,Nat.min_eq_left (show k≤m.size by omega)]
 by_cases h1:i<k
 · rw [if_pos (by omega),if_pos h1,List.getElem?_take_of_lt h1,hv _ _ (by omega),hv _ _ (by rw [Mem.put_size];omega)]
   rw [Mem.byte,Mem.byte,Mem.get_put_apart _ _ _ _ _ _ (by omega)]
 · by_cases h2:i<k+s.length
   · rw [if_pos h2,if_neg h1,List.getElem?_map,List.getElem?_eq_getElem (by omega),hv _ _ (by rw [Mem.put_size];omega)]
     rw [Mem.byte,Mem.get_put_in _ _ _ _ _ _ (by omega) (by omega)]
     have:=leN_shift s (i-k) (by omega)
     rw [show (2:Nat) ^ (8*1)=256 from rfl,this]
     rfl
   · rw [if_neg h2,List.getElem?_drop,show k+s.length+(i-(k+s.length))=i by omega]
     by_cases h3:i<m.size
     · rw [hv _ _ h3,hv _ _ (by rw [Mem.put_size];exact h3)]
       rw [Mem.byte,Mem.byte,Mem.get_put_apart _ _ _ _ _ _ (by omega)]
     · rw [hn _ _ (by omega),hn _ _ (by rw [Mem.put_size];omega)]
theorem mem_setText (w:World) (b bb:Nat) (m:Mem) (a:Int) (s:List UInt8) (h:RMem w b bb m) (hs:s.length≤9223372036854775807) :
 Calls Tryz.prog 255 #[.pointer (some ⟨b,0,none⟩),.int .i64 a,.string ⟨s.toArray⟩] w (SetPost b bb (m.setText a s) w):=by
 have H:=h_ h;have hle:=h.le;have h0:=h.cell;have hrest:=h.rest;clear h;have HD:Hid (m.setText a s=if m.has a s.length then (m.put a.toNat s.length (leN s),0) else (m,-9)):=rfl
 have hc:=fun w H=>mem_has w b bb m a s.length H
 have HI:=h_ (m.has_iff a s.length);generalize m.has a s.length=q at hc HI HD;have HC:=h_ hc;clear hc;generalize m.setText a s=r at HD ⊢
 cases q with
 | false =>
  have hr:r=(m,-9):=HD.out;subst hr;clear HD
  go_enter Tryz.func255,Tryz.ntmps255
  go_wp2_with fail;refine (HC.out _ H.out).mono ?_;rintro e w1 ⟨rfl,rfl⟩;go_wp2_with fail;go_ret
  exact ⟨rfl,H.out,Keeps.refl _ _⟩
 | true =>
  have ha:=HI.out.1 rfl;obtain ⟨k,rfl⟩:∃ k:Nat,a=k:=⟨a.toNat,by omega⟩
  have hr:r=(m.put k s.length (leN s),0):=HD.out;subst hr;have b1:(k:Int)+s.length≤m.size:=by omega
  have b2:(0:Int)≤k:=by omega
  have b3:k+s.length≤m.size:=by omega
  clear HD ha
  go_enter Tryz.func255,Tryz.ntmps255
  go_wp2_with fail;refine (HC.out _ H.out).mono ?_;rintro e w1 ⟨rfl,rfl⟩;by_cases hne:s=[]
  · subst hne
    go_wp2_with fail;go_ret
    refine ⟨rfl,?_,Keeps.refl _ _⟩;simp only [List.length_nil,Mem.put_zero]
    exact H.out
  · have hne':s.isEmpty=false:=by simpa using hne
    have hrun:=run_copy_str (P:=Tryz.prog) w 143 9 3 5 bb k (m.size-k) (m.size-k) ⟨s.toArray⟩ m.vals 5 Tryz.underlying143 (by kernel_rfl) hrest (by show s.length≤_;omega) (by show k+s.length≤_;rw [Mem.vals_size];omega)
    have hk:¬ m.size=k:=by have:=List.length_pos_iff.2 hne;omega
    have HV:Hid ((m.vals.toList.take k++((s.map fun b=>Value.int .u8 b.toNat)++m.vals.toList.drop (k+s.length))).toArray=(m.put k s.length (leN s)).vals):=by
     rw [← List.append_assoc];exact Mem.vals_text m k s b3
    go_wp2_with fail;go_ret
    refine ⟨rfl,⟨?_,?_,H.out.ne,H.out.le⟩,⟨rfl,rfl,rfl,by simp,fun j _ hj=>setRow_other w bb j _ hj⟩⟩
    · exact (setRow_other w bb b _ H.out.ne).trans H.out.head
    · rw [← HV.out]
      exact setRow_heap w bb m.vals _ _ _ H.out.rest
theorem Mem.byte_in (m:Mem) (k l i:Nat) (h:i<l):(m.get k l >>> (8*i)) % 256=m.byte (k+i):=by
 apply Nat.eq_of_testBit_eq
 intro j;rw [show (256:Nat)=2 ^ (8*1) from rfl,Nat.testBit_mod_two_pow,Nat.testBit_shiftRight,Mem.get_bit,Mem.get_bit]
 by_cases hj:j<8*1
 · have e1:8*i+j<8*l:=by omega
   have e2:8*k+(8*i+j)=8*(k+i)+j:=by omega
   simp [hj,e1,e2]
 · simp [hj]
theorem str_text (m:Mem) (k l:Nat):strOfNums ((List.range l).map fun i=>(m.byte (k+i):Int))=⟨(bytesN l (m.get k l)).toArray⟩:=by
 apply ByteArray.ext
 apply Array.ext'
 rw [strOfNums_data];apply List.ext_getElem
 · simp [bytesN_len]
 · intro i h1 h2
   have hi:i<l:=by simpa using h1
   apply UInt8.toNat_inj.1
   have e:=bytesN_get l (m.get k l) i (by simpa using h2)
   rw [Mem.byte_in m k l i hi] at e;simp only [List.getElem_map,List.getElem_range]
   have hb:=m.byte_lt (k+i);rw [show ((bytesN l (m.get k l)).toArray.toList)[i]=(bytesN l (m.get k l))[i]'(by simpa using h2) from rfl,e]
   simp
   omega
def strV (l:List UInt8):Value:=.string ⟨l.toArray⟩
theorem mem_text (w:World) (b bb:Nat) (m:Mem) (a n:Int) (h:RMem w b bb m) :
 Calls Tryz.prog 92 #[.pointer (some ⟨b,0,none⟩),.int .i64 a,.int .i64 n] w fun e w'=>e=.returned (.tuple #[strV (m.text a n).1,.int .i64 (m.text a n).2])∧w=w':=by
 have H:=h_ h;have hle:=h.le;have h0:=h.cell;have hby:=fun i hi=>h.byte (i:=i) hi
 clear h;have HD:Hid (m.text a n=if m.has a n then (bytesN n.toNat (m.get a.toNat n.toNat),0) else ([],-9)):=rfl
 have hc:=fun w H=>mem_has w b bb m a n H
 have HI:=h_ (m.has_iff a n);generalize m.has a n=q at hc HI HD;have HC:=h_ hc;clear hc;generalize m.text a n=r at HD ⊢
 cases q with
 | false =>
  have hr:r=([],-9):=HD.out;subst hr;clear HD hby
  go_enter Tryz.func92,Tryz.ntmps92
  go_wp2_with fail;refine (HC.out _ H.out).mono ?_;rintro e w1 ⟨rfl,rfl⟩;go_wp2_with fail;go_ret2
  exact ⟨rfl,rfl⟩
 | true =>
  have ha:=HI.out.1 rfl;obtain ⟨k,rfl⟩:∃ k:Nat,a=k:=⟨a.toNat,by omega⟩
  obtain ⟨l,rfl⟩:∃ l:Nat,n=l:=⟨n.toNat,by omega⟩
  have hr:r=(bytesN l (m.get k l),0):=HD.out;subst hr;have b1:(k:Int)+l≤m.size:=by omega
  have b2:(0:Int)≤k:=by omega
  have b3:(0:Int)≤l:=by omega
  have hconv:=run_convert_bytes_arg (P:=Tryz.prog) w 143 5 Tryz.underlying143 Tryz.underlying5 bb k l (m.size-k) ((List.range l).map fun i=>(m.byte (k+i):Int)) (by simp) (fun i hi=>by
   rw [hby (k+i) (by omega)]
   simp [List.getD_eq_getElem?_getD,hi]) 9 Tryz.underlying9
  clear HD ha hby
  go_enter Tryz.func92,Tryz.ntmps92
  go_wp2_with fail;refine (HC.out _ H.out).mono ?_;rintro e w1 ⟨rfl,rfl⟩;by_cases hl0:l=0
  · subst hl0
    go_wp2_with fail;go_ret2
    exact ⟨rfl,rfl⟩
  · have hl1:((l:Int) == 0)=false:=by simp;omega
    have hk:¬ m.size=k:=by omega
    go_wp2_with fail;go_ret2
    refine ⟨?_,rfl⟩
    show Ending.returned (.tuple #[.string _,.int .i64 0])=_
    rw [str_text];rfl
theorem vals_zero (n:Nat):madeCells #[.int .u8 0] (n*1)=(Mem.zero n).vals:=by
 unfold Mem.vals madeCells Mem.zero;apply Array.ext'
 simp [Mem.get]
 intro a _;rw [Nat.mod_one];rfl
def NewPost (size:Int) (w:World) (e:Ending) (w':World):Prop :=
 if Mem.newCode size=0 then ∃ b bb,e=.returned (.tuple #[.pointer (some ⟨b,0,none⟩),.int .i64 0])∧RMem w' b bb (Mem.zero size.toNat)∧w.heap.size≤b∧w.heap.size≤bb∧Keeps (fun _=>False) w w'
 else e=.returned (.tuple #[.pointer none,.int .i64 (-256)])∧w=w'
theorem infoU8:(Tryz.prog.info? 5).map (fun i=>(i.zero,i.size,i.bytes))=some (some (.int .u8 0),1,1):=by kernel_rfl
theorem mem_new (w:World) (size:Int):Calls Tryz.prog 118 #[.int .i64 size] w (NewPost size w):=by
 by_cases hc:0≤size∧size≤1048576∧size % 8=0
 · have hn:NewPost size w=fun e w'=>∃ b bb,e=.returned (.tuple #[.pointer (some ⟨b,0,none⟩),.int .i64 0])∧RMem w' b bb (Mem.zero size.toNat)∧w.heap.size≤b∧w.heap.size≤bb∧Keeps (fun _=>False) w w':=by
    funext e w'
    unfold NewPost Mem.newCode;rw [if_pos (by rw [if_pos hc])]
   rw [hn];obtain ⟨h0,h1,h2⟩:=hc;obtain ⟨k,rfl⟩:∃ k:Nat,size=k:=⟨size.toNat,by omega⟩
   obtain ⟨i0,hi,hz0,hz1,hz2⟩:=info_parts infoU8;have h3:((k:Int) % 8 != 0)=false:=by simp;omega
   have hm:=fun w=>run_make (P:=Tryz.prog) w 143 5 i0 (.int .u8 0) Tryz.underlying143 hi hz0 .i64 .i64 k k (by omega) (by omega) (by rw [hz2];omega) (by omega)
   rw [hz1] at hm;simp only [Int.toNat_natCast,Value.cells,vals_zero] at hm
   clear hn;generalize hv:(Mem.zero k).vals=V at hm;have HV:=h_ hv;clear hv
   go_enter Tryz.func118,Tryz.ntmps118
   go_wp2_with fail;go_ret2
   refine ⟨w.heap.size+1,w.heap.size,by simp,⟨?_,?_,by omega,by show k≤_;omega⟩,by omega,by omega,(Keeps.alloc _ _ _).trans (Keeps.alloc _ _ _)⟩
   · have:=halloc_at (w.alloc (.cells V 5)) (.cells #[.slice (some ⟨w.heap.size,0,none⟩) k k] 260)
     rw [World.size_alloc] at this;exact this
   · rw [show (Mem.zero (k:Int).toNat).vals=V from HV.out]
     exact (halloc_old _ _ (by simp)).trans (halloc_at w _)
 · have hn:NewPost size w=fun e w'=>e=.returned (.tuple #[.pointer none,.int .i64 (-256)])∧w=w':=by
    funext e w'
    unfold NewPost Mem.newCode;rw [if_neg (by rw [if_neg hc];decide)]
   rw [hn]
   have hc':size<0∨(0≤size∧1048576<size)∨(0≤size∧size≤1048576∧(size % 8 != 0)=true):=by
    by_cases h1:0≤size
    · by_cases h2:size≤1048576
      · exact .inr (.inr ⟨h1,h2,by simp;omega⟩)
      · exact .inr (.inl ⟨h1,by omega⟩)
    · exact .inl (by omega)
   clear hc hn
   rcases hc' with h | ⟨h1,h2⟩ | ⟨h1,h2,h3⟩
   all_goals
    go_enter Tryz.func118,Tryz.ntmps118
    go_wp2_with fail;go_ret2
    exact ⟨rfl,rfl⟩
structure RSp (w:World) (s b bb:Nat) (x:Sp):Prop where
 head:w.heap[s]?=some (.cells #[.pointer (some ⟨b,0,none⟩),.int .i64 x.lo,.int .i64 x.to,.int .i64 x.here] 84 (0,0))
 mem:RMem w b bb x.mem
 ne1:s≠b
 ne2:s≠bb
 ok:x.Ok
theorem RSp.keeps {w w':World} {s b bb:Nat} {x:Sp} (h:RSp w s b bb x) {S:Nat→Prop} (k:Keeps S w w') (h0:¬ S s) (h1:¬ S b) (h2:¬ S bb):RSp w' s b bb x :=
 ⟨k.heap h.head h0,h.mem.keeps k h1 h2,h.ne1,h.ne2,h.ok⟩
theorem RSp.c0 {w:World} {s b bb:Nat} {x:Sp} (h:RSp w s b bb x):w.cell? ⟨s,0,none⟩=some (.pointer (some ⟨b,0,none⟩)):=cell_of h.head rfl
theorem RSp.c1 {w:World} {s b bb:Nat} {x:Sp} (h:RSp w s b bb x):w.cell? ⟨s,1,none⟩=some (.int .i64 x.lo):=cell_of h.head rfl
theorem RSp.c2 {w:World} {s b bb:Nat} {x:Sp} (h:RSp w s b bb x):w.cell? ⟨s,2,none⟩=some (.int .i64 x.to):=cell_of h.head rfl
theorem RSp.c3 {w:World} {s b bb:Nat} {x:Sp} (h:RSp w s b bb x):w.cell? ⟨s,3,none⟩=some (.int .i64 x.here):=cell_of h.head rfl
theorem RSp.f {w:World} {s b bb:Nat} {x:Sp} (h:RSp w s b bb x) (i:Nat):w.frozen? ⟨s,i,none⟩=false:=free_of h.head
theorem RSp.bd {w:World} {s b bb:Nat} {x:Sp} (h:RSp w s b bb x):0≤x.lo∧x.lo≤x.here∧x.here≤x.to∧x.to≤4194304:=by
 obtain ⟨h1,h2,h3,h4⟩:=h.ok;have:=h.mem.le;exact ⟨h1,h2,h3,by omega⟩
theorem RSp.withMem {w w':World} {s b bb:Nat} {x:Sp} (h:RSp w s b bb x) {m:Mem} (hm:RMem w' b bb m) (hs:m.size=x.mem.size) (k:Keeps (fun j=>j=bb) w w'):RSp w' s b bb { x with mem:=m } :=
 ⟨k.heap h.head h.ne2,hm,h.ne1,h.ne2,h.ok.1,h.ok.2.1,h.ok.2.2.1,by show x.to≤m.size;rw [hs];exact h.ok.2.2.2⟩
theorem RSp.withHere {w:World} {s b bb:Nat} {x:Sp} (h:RSp w s b bb x) (n:Int) (h1:x.lo≤n) (h2:n≤x.to):RSp (w.setCell ⟨s,3,none⟩ (.int .i64 n)) s b bb { x with here:=n } :=
 ⟨hset_same h.head _,h.mem.keeps (Keeps.setCell (S:=fun j=>j=s) _ _ _ (fun _=>rfl)) (fun e=>h.ne1 e.symm) (fun e=>h.ne2 e.symm),h.ne1,h.ne2,h.ok.1,h1,h2,h.ok.2.2.2⟩
theorem sp_here (w:World) (s b bb:Nat) (x:Sp) (h:RSp w s b bb x) :
 Calls Tryz.prog 35 #[.pointer (some ⟨s,0,none⟩)] w fun e w'=>e=.returned (.int .i64 x.here)∧w=w':=by
 have h3:=h.c3
 go_enter Tryz.func35,Tryz.ntmps35
 go_wp2
 go_ret
 exact ⟨rfl,rfl⟩
def SpPost (s b bb:Nat) (r:Sp × Int) (w:World) (e:Ending) (w':World):Prop :=
 e=.returned (.int .i64 r.2)∧RSp w' s b bb r.1∧Keeps (fun k=>k=s∨k=bb) w w'
theorem sp_allot (w:World) (s b bb:Nat) (x:Sp) (n:Int) (h:RSp w s b bb x) :
 Calls Tryz.prog 256 #[.pointer (some ⟨s,0,none⟩),.int .i64 n] w (SpPost s b bb (x.allot n) w):=by
 have H:=h_ h;have h1:=h.c1;have h2:=h.c2;have h3:=h.c3;have hf:=h.f 3;obtain ⟨b1,b2,b3,b4⟩:=h.bd;clear h;have HD:Hid (x.allot n=if n > x.to-x.here∨n<x.lo-x.here then (x,-8) else ({ x with here:=x.here+n },0)):=rfl
 generalize x.allot n=r at HD ⊢;have w1:IntKind.i64.wrap (x.to-x.here)=x.to-x.here:=IntWalk.i64_in _ (by omega)
 have w2:IntKind.i64.wrap (x.lo-x.here)=x.lo-x.here:=IntWalk.i64_in _ (by omega)
 by_cases hc:n > x.to-x.here∨n<x.lo-x.here
 · have hr:r=(x,-8):=by rw [HD.out,if_pos hc]
   subst hr;clear HD;have hc':(x.to-x.here<n)∨(n≤x.to-x.here∧n<x.lo-x.here):=by omega
   clear hc
   rcases hc' with hc | ⟨hc,hd⟩
   · have e1:decide (x.to-x.here<n)=true:=by simpa using hc
     go_enter Tryz.func256,Tryz.ntmps256
     go_wp2
     go_quiet (fail)
     go_wp2
     go_ret
     exact ⟨rfl,⟨H.out.head,⟨H.out.mem.head,H.out.mem.rest,H.out.mem.ne,H.out.mem.le⟩,H.out.ne1,H.out.ne2,H.out.ok⟩,Keeps.drewN _ _ _⟩
   · have e1:decide (x.to-x.here<n)=false:=by simpa using hc
     have e2:decide (n<x.lo-x.here)=true:=by simpa using hd
     go_enter Tryz.func256,Tryz.ntmps256
     go_wp2
     go_quiet (fail)
     go_wp2
     go_ret
     exact ⟨rfl,⟨H.out.head,⟨H.out.mem.head,H.out.mem.rest,H.out.mem.ne,H.out.mem.le⟩,H.out.ne1,H.out.ne2,H.out.ok⟩,Keeps.drewN _ _ _⟩
 · have hr:r=({ x with here:=x.here+n },0):=by rw [HD.out,if_neg hc]
   subst hr;clear HD;have e1:decide (x.to-x.here<n)=false:=by simp;omega
   have e2:decide (n<x.lo-x.here)=false:=by simp;omega
   have g1:x.lo≤x.here+n:=by omega
   have g2:x.here+n≤x.to:=by omega
   clear hc
   go_enter Tryz.func256,Tryz.ntmps256
   go_wp2
   go_quiet (fail)
   go_wp2
   go_ret
   refine ⟨rfl,?_,?_⟩
   · have:=H.out.withHere (x.here+n) g1 g2
     exact ⟨this.head,⟨this.mem.head,this.mem.rest,this.mem.ne,this.mem.le⟩,this.ne1,this.ne2,this.ok⟩
   · exact (Keeps.drewN _ _ _).trans (Keeps.setCell _ _ _ (fun _=>.inl rfl))
theorem RMem.drew {w:World} {b bb:Nat} {m:Mem} (h:RMem w b bb m):RMem w.drew b bb m:=⟨h.head,h.rest,h.ne,h.le⟩
theorem RSp.drew {w:World} {s b bb:Nat} {x:Sp} (h:RSp w s b bb x):RSp w.drew s b bb x:=⟨h.head,h.mem.drew,h.ne1,h.ne2,h.ok⟩
theorem SetPost.drew {b bb:Nat} {r:Mem × Int} {w w':World} {e:Ending} (h:SetPost b bb r w.drew e w'):SetPost b bb r w e w':=⟨h.1,h.2.1,(Keeps.drew _ w).trans h.2.2⟩
theorem RSp.allocd {w:World} {s b bb:Nat} {x:Sp} (h:RSp w s b bb x) (o:Obj):RSp (w.alloc o) s b bb x:=h.keeps (ka_ w o) id id id
theorem sp_comma1 (w:World) (s b bb:Nat) (x:Sp) (a:Int) (n:Int) (x0 x1:Nat) (h:RSp w s b bb x) (c0:w.cell? ⟨x0,0,none⟩=some (.pointer (some ⟨s,0,none⟩))) (c1:w.cell? ⟨x1,0,none⟩=some (.int .i64 n)) :
 Calls Tryz.prog 155 #[.int .i64 a,.pointer (some ⟨x0,0,none⟩),.pointer (some ⟨x1,0,none⟩)] w (SetPost b bb (x.mem.setCell a n) w):=by
 have h0:=h.c0;have H:=h_ h.mem;clear h
 go_enter Tryz.func155,Tryz.ntmps155
 go_wp2_with fail
 go_still_tail 6,(by kernel_rfl)
 change wpList _ _ _ _ _ w.drew
 go_wp2_with fail;refine (mem_setCell _ _ _ _ _ _ H.out.drew).mono ?_;rintro e w' hp;obtain ⟨rfl,h1,h2⟩:=hp.drew;have HP:=h_ (And.intro h1 h2);clear h1 h2 hp
 go_wp2
 go_ret
 exact ⟨rfl,HP.out.1,HP.out.2⟩
theorem sp_put_comma (w:World) (s b bb:Nat) (x:Sp) (n:Int) (x0 x1:Nat) (h:RSp w s b bb x) (c0:w.cell? ⟨x0,0,none⟩=some (.pointer (some ⟨s,0,none⟩))) (c1:w.cell? ⟨x1,0,none⟩=some (.int .i64 n)) :
 Calls Tryz.prog 154 #[.pointer (some ⟨s,0,none⟩),.int .i64 (8),.func (.func 155) #[] #[.pointer (some ⟨x0,0,none⟩),.pointer (some ⟨x1,0,none⟩)]] w (SpPost s b bb (x.comma n) w):=by
 have H:=h_ h;have h2:=h.c2;obtain ⟨b1,b2,b3,b4⟩:=h.bd;clear h;have HD:Hid (x.comma n=if 8≤x.to-x.here then (if (x.mem.setCell x.here n).2≠0 then ({ x with mem:=(x.mem.setCell x.here n).1 },(x.mem.setCell x.here n).2) else Sp.allot { x with mem:=(x.mem.setCell x.here n).1 } (8)) else x.allot (8)):=rfl
 have hsz:(x.mem.setCell x.here n).1.size=x.mem.size:=Mem.setCell_size _ _ _;have hcl:=h_ (sp_comma1 w s b bb x x.here n x0 x1 H.out c0 c1);generalize x.mem.setCell x.here n=q at HD hsz hcl;generalize x.comma n=r at HD ⊢;have HS:=h_ hsz;clear hsz c0 c1;by_cases hle:8≤x.to-x.here
 · have hq:=HD.out
   rw [if_pos hle] at hq;have HQ:=h_ hq;clear hq HD
   go_enter Tryz.func154,Tryz.ntmps154
   go_wp2_with fail;refine (sp_here _ _ _ _ _ H.out).mono ?_;rintro e w1 ⟨rfl,rfl⟩;go_wp2_with fail;refine hcl.out.mono ?_;rintro e w1 ⟨rfl,hm,hk⟩;have hx:=H.out.withMem hm HS.out hk;have HX:=h_ hx;have HK:=h_ (hk.mono (T:=fun k=>k=s∨k=bb) (fun _ _ e=>.inr e))
   clear hm hk hx;by_cases hz:q.2=0
   · have hz':(q.2 != 0)=false:=by simp [hz]
     have hq:=HQ.out;rw [if_neg (by simp [hz])] at hq
     subst hq;go_wp2_with fail;refine (sp_allot _ _ _ _ _ _ HX.out).mono ?_;rintro e w2 ⟨rfl,h1,h2⟩;have HP:=h_ (And.intro h1 (HK.out.trans h2));clear h1 h2
     go_wp2
     go_ret
     exact ⟨rfl,HP.out.1,HP.out.2⟩
   · have hz':(q.2 != 0)=true:=by simp [hz]
     have hq:=HQ.out;rw [if_pos hz] at hq;subst hq
     go_wp2
     go_ret
     exact ⟨rfl,HX.out,HK.out⟩
 · have hq:=HD.out
   rw [if_neg hle] at hq;subst hq;clear HD;have hle':x.to-x.here<8:=by omega
   go_enter Tryz.func154,Tryz.ntmps154
   go_wp2_with fail;refine (sp_here _ _ _ _ _ H.out).mono ?_;rintro e w1 ⟨rfl,rfl⟩;go_wp2_with fail;refine (sp_allot _ _ _ _ _ _ H.out).mono ?_;rintro e w2 ⟨rfl,h1,h2⟩;have HP:=h_ (And.intro h1 h2);clear h1 h2
   go_wp2
   go_ret
   exact ⟨rfl,HP.out.1,HP.out.2⟩
theorem sp_comma (w:World) (s b bb:Nat) (x:Sp) (n:Int) (h:RSp w s b bb x) :
 Calls Tryz.prog 83 #[.pointer (some ⟨s,0,none⟩),.int .i64 n] w (SpPost s b bb (x.comma n) w):=by
 have hmf:∀ (fn:Fn) (first cap:Array Value) (w:World),(Instr.makeFunc fn first cap).run Tryz.prog w=.ok (.func fn first cap) w:=fun _ _ _ _=>rfl
 have hp:=sp_put_comma ((w.alloc (.cells #[.pointer (some ⟨s,0,none⟩)] 41)).alloc (.cells #[.int .i64 n] 2)) s b bb x n w.heap.size (w.heap.size+1)
  ((h.allocd _).allocd _) (by rw [World.cell?_alloc_lt _ _ _ (by simp)];exact World.cell?_alloc_new _ _ _ _) (by simp)
 have HP:=h_ hp;have HK:Hid (Keeps (fun k=>k=s∨k=bb) w ((w.alloc (.cells #[.pointer (some ⟨s,0,none⟩)] 41)).alloc (.cells #[.int .i64 n] 2))):=(Keeps.alloc _ _ _).trans (Keeps.alloc _ _ _)
 clear hp h
 go_enter Tryz.func83,Tryz.ntmps83
 go_wp2_with fail;refine HP.out.mono ?_;rintro e w1 ⟨rfl,h1,h2⟩;have HQ:=h_ (And.intro h1 (HK.out.trans h2));clear h1 h2
 go_wp2
 go_ret
 exact ⟨rfl,HQ.out.1,HQ.out.2⟩
theorem sp_char1 (w:World) (s b bb:Nat) (x:Sp) (a:Int) (n:Int) (x0 x1:Nat) (h:RSp w s b bb x) (c0:w.cell? ⟨x0,0,none⟩=some (.pointer (some ⟨s,0,none⟩))) (c1:w.cell? ⟨x1,0,none⟩=some (.int .i64 n)) :
 Calls Tryz.prog 381 #[.int .i64 a,.pointer (some ⟨x0,0,none⟩),.pointer (some ⟨x1,0,none⟩)] w (SetPost b bb (x.mem.setByte a n) w):=by
 have h0:=h.c0;have H:=h_ h.mem;clear h
 go_enter Tryz.func381,Tryz.ntmps381
 go_wp2_with fail
 go_still_tail 6,(by kernel_rfl)
 change wpList _ _ _ _ _ w.drew
 go_wp2_with fail;refine (mem_setByte _ _ _ _ _ _ H.out.drew).mono ?_;rintro e w' hp;obtain ⟨rfl,h1,h2⟩:=hp.drew;have HP:=h_ (And.intro h1 h2);clear h1 h2 hp
 go_wp2
 go_ret
 exact ⟨rfl,HP.out.1,HP.out.2⟩
theorem sp_put_char (w:World) (s b bb:Nat) (x:Sp) (n:Int) (x0 x1:Nat) (h:RSp w s b bb x) (c0:w.cell? ⟨x0,0,none⟩=some (.pointer (some ⟨s,0,none⟩))) (c1:w.cell? ⟨x1,0,none⟩=some (.int .i64 n)) :
 Calls Tryz.prog 154 #[.pointer (some ⟨s,0,none⟩),.int .i64 (1),.func (.func 381) #[] #[.pointer (some ⟨x0,0,none⟩),.pointer (some ⟨x1,0,none⟩)]] w (SpPost s b bb (x.char n) w):=by
 have H:=h_ h;have h2:=h.c2;obtain ⟨b1,b2,b3,b4⟩:=h.bd;clear h;have HD:Hid (x.char n=if 1≤x.to-x.here then (if (x.mem.setByte x.here n).2≠0 then ({ x with mem:=(x.mem.setByte x.here n).1 },(x.mem.setByte x.here n).2) else Sp.allot { x with mem:=(x.mem.setByte x.here n).1 } (1)) else x.allot (1)):=rfl
 have hsz:(x.mem.setByte x.here n).1.size=x.mem.size:=Mem.setByte_size _ _ _;have hcl:=h_ (sp_char1 w s b bb x x.here n x0 x1 H.out c0 c1);generalize x.mem.setByte x.here n=q at HD hsz hcl;generalize x.char n=r at HD ⊢;have HS:=h_ hsz;clear hsz c0 c1;by_cases hle:1≤x.to-x.here
 · have hq:=HD.out
   rw [if_pos hle] at hq;have HQ:=h_ hq;clear hq HD
   go_enter Tryz.func154,Tryz.ntmps154
   go_wp2_with fail;refine (sp_here _ _ _ _ _ H.out).mono ?_;rintro e w1 ⟨rfl,rfl⟩;go_wp2_with fail;refine hcl.out.mono ?_;rintro e w1 ⟨rfl,hm,hk⟩;have hx:=H.out.withMem hm HS.out hk;have HX:=h_ hx;have HK:=h_ (hk.mono (T:=fun k=>k=s∨k=bb) (fun _ _ e=>.inr e))
   clear hm hk hx;by_cases hz:q.2=0
   · have hz':(q.2 != 0)=false:=by simp [hz]
     have hq:=HQ.out;rw [if_neg (by simp [hz])] at hq
     subst hq;go_wp2_with fail;refine (sp_allot _ _ _ _ _ _ HX.out).mono ?_;rintro e w2 ⟨rfl,h1,h2⟩;have HP:=h_ (And.intro h1 (HK.out.trans h2));clear h1 h2
     go_wp2
     go_ret
     exact ⟨rfl,HP.out.1,HP.out.2⟩
   · have hz':(q.2 != 0)=true:=by simp [hz]
     have hq:=HQ.out;rw [if_pos hz] at hq;subst hq
     go_wp2
     go_ret
     exact ⟨rfl,HX.out,HK.out⟩
 · have hq:=HD.out
   rw [if_neg hle] at hq;subst hq;clear HD;have hle':x.to-x.here<1:=by omega
   go_enter Tryz.func154,Tryz.ntmps154
   go_wp2_with fail;refine (sp_here _ _ _ _ _ H.out).mono ?_;rintro e w1 ⟨rfl,rfl⟩;go_wp2_with fail;refine (sp_allot _ _ _ _ _ _ H.out).mono ?_;rintro e w2 ⟨rfl,h1,h2⟩;have HP:=h_ (And.intro h1 h2);clear h1 h2
   go_wp2
   go_ret
   exact ⟨rfl,HP.out.1,HP.out.2⟩
theorem sp_char (w:World) (s b bb:Nat) (x:Sp) (n:Int) (h:RSp w s b bb x) :
 Calls Tryz.prog 253 #[.pointer (some ⟨s,0,none⟩),.int .i64 n] w (SpPost s b bb (x.char n) w):=by
 have hmf:∀ (fn:Fn) (first cap:Array Value) (w:World),(Instr.makeFunc fn first cap).run Tryz.prog w=.ok (.func fn first cap) w:=fun _ _ _ _=>rfl
 have hp:=sp_put_char ((w.alloc (.cells #[.pointer (some ⟨s,0,none⟩)] 41)).alloc (.cells #[.int .i64 n] 2)) s b bb x n w.heap.size (w.heap.size+1)
  ((h.allocd _).allocd _) (by rw [World.cell?_alloc_lt _ _ _ (by simp)];exact World.cell?_alloc_new _ _ _ _) (by simp)
 have HP:=h_ hp;have HK:Hid (Keeps (fun k=>k=s∨k=bb) w ((w.alloc (.cells #[.pointer (some ⟨s,0,none⟩)] 41)).alloc (.cells #[.int .i64 n] 2))):=(Keeps.alloc _ _ _).trans (Keeps.alloc _ _ _)
 clear hp h
 go_enter Tryz.func253,Tryz.ntmps253
 go_wp2_with fail;refine HP.out.mono ?_;rintro e w1 ⟨rfl,h1,h2⟩;have HQ:=h_ (And.intro h1 (HK.out.trans h2));clear h1 h2
 go_wp2
 go_ret
 exact ⟨rfl,HQ.out.1,HQ.out.2⟩
theorem SpPost.refl {w:World} {s b bb:Nat} {x:Sp} (h:RSp w s b bb x) (n:Int):SpPost s b bb (x,n) w (.returned (.int .i64 n)) w:=⟨rfl,h,Keeps.refl _ _⟩
theorem sp_align (w:World) (s b bb:Nat) (x:Sp) (h:RSp w s b bb x) :
 Calls Tryz.prog 147 #[.pointer (some ⟨s,0,none⟩)] w (SpPost s b bb x.align w):=by
 go_enter Tryz.func147,Tryz.ntmps147
 go_wp2_with fail
 go_loopw [2,3] (fun _ _ wr=>∃ y:Sp,y.align=x.align∧RSp wr s b bb y∧Keeps (fun k=>k=s∨k=bb) w wr)
  (fun _ _ wr=>match wr.cell? ⟨s,3,none⟩ with | some (.int _ n)=>((8-n % 8) % 8).toNat | _=>0)
 case atStart=>exact ⟨x,rfl,h,Keeps.refl _ _⟩
 case round =>
  obtain ⟨y,hy,hr,hw⟩:=hrel;have c3:=hr.c3;obtain ⟨b1,b2,b3,b4⟩:=hr.bd;have HR:=h_ hr;have HY:=h_ hy;clear hr hy;go_wp2_with fail;refine (sp_here _ _ _ _ _ HR.out).mono ?_;rintro e w1 ⟨rfl,rfl⟩;by_cases h8:y.here % 8=0
  · have h8':(y.here % 8 != 0)=false:=by simp [h8]
    have hz:y.align=(y,0):=by unfold Sp.align;rw [Sp.alignN,if_pos h8]
    have HZ:=h_ hz;clear hz;go_wp2_with fail;go_ret
    rw [← HY.out,HZ.out];exact ⟨rfl,HR.out,hw⟩
  · have h8':(y.here % 8 != 0)=true:=by simp [h8]
    go_wp2_with fail;refine (sp_char _ _ _ _ _ _ HR.out).mono ?_;rintro e w2 ⟨rfl,g1,g2⟩;have hw2:=hw.trans g2;have G1:=h_ g1;clear g1 g2 hw;by_cases he:(y.char 0).2=0
    · have he':((y.char 0).2 != 0)=false:=by simp [he]
      have hst:=Sp.align_step y h8 he;have hh:=Sp.char_here 0 he;have c3':=G1.out.c3;rw [hh] at c3';have HH:=h_ hst;clear hh he hst;go_wp2_with fail
      go_roundw
      case rel=>exact ⟨_,by rw [← HY.out,HH.out],G1.out,hw2⟩
      case measure=>simp only [c3,c3'];omega
    · have he':((y.char 0).2 != 0)=true:=by simp [he]
      have hz:y.align=y.char 0:=by unfold Sp.align;rw [Sp.alignN,if_neg h8,if_pos he]
      have HZ:=h_ hz;clear hz he;go_wp2_with fail;go_ret
      rw [← HY.out,HZ.out];exact ⟨rfl,G1.out,hw2⟩
theorem sp_back (w:World) (s b bb:Nat) (x:Sp) (n:Int) (h:RSp w s b bb x) :
 Calls Tryz.prog 84 #[.pointer (some ⟨s,0,none⟩),.int .i64 n] w (SpPost s b bb (x.back n) w):=by
 have H:=h_ h;have h1:=h.c1;have h3:=h.c3;have hf:=h.f 3;have hb:=h_ h.bd;clear h;have HD:Hid (x.back n=if n<x.lo∨x.here<n then (x,-256) else ({ x with here:=n },0)):=rfl
 generalize x.back n=r at HD ⊢;by_cases hc:n<x.lo∨x.here<n
 · have hr:r=(x,-256):=by rw [HD.out,if_pos hc]
   subst hr;clear HD;have hc':n<x.lo∨(x.lo≤n∧x.here<n):=by omega
   clear hc
   rcases hc' with hc | ⟨hc,hd⟩
   all_goals
    go_enter Tryz.func84,Tryz.ntmps84
    go_wp2
    go_ret
    exact SpPost.refl H.out _
 · have hr:r=({ x with here:=n },0):=by rw [HD.out,if_neg hc]
   subst hr;clear HD;have g1:x.lo≤n:=by omega
   have g2:n≤x.here:=by omega
   clear hc
   go_enter Tryz.func84,Tryz.ntmps84
   go_wp2
   go_ret
   exact ⟨rfl,H.out.withHere n g1 (Int.le_trans g2 hb.out.2.2.1),Keeps.setCell _ _ _ (fun _=>.inl rfl)⟩
def SpNewPost (b bb:Nat) (m:Mem) (lo hi:Int) (w:World) (e:Ending) (w':World):Prop :=
 if Sp.newCode m lo hi=0 then ∃ s,e=.returned (.tuple #[.pointer (some ⟨s,0,none⟩),.int .i64 0])∧RSp w' s b bb ⟨m,lo,hi,lo⟩∧w.heap.size≤s∧Keeps (fun _=>False) w w'
 else e=.returned (.tuple #[.pointer none,.int .i64 (-256)])∧w=w'
theorem sp_new (w:World) (b bb:Nat) (m:Mem) (lo hi:Int) (h:RMem w b bb m) :
 Calls Tryz.prog 128 #[.pointer (some ⟨b,0,none⟩),.int .i64 lo,.int .i64 hi] w (SpNewPost b bb m lo hi w):=by
 have H:=h_ h;have hl:=h.lt;clear h;by_cases hc:lo<0∨hi<lo∨m.size<hi
 · have hn:SpNewPost b bb m lo hi w=fun e w'=>e=.returned (.tuple #[.pointer none,.int .i64 (-256)])∧w=w':=by
    funext e w'
    unfold SpNewPost Sp.newCode;rw [if_neg (by rw [if_pos hc];decide)]
   rw [hn];clear hn hl;have hc':lo<0∨(0≤lo∧hi<lo)∨(0≤lo∧lo≤hi∧m.size<hi):=by omega
   clear hc
   rcases hc' with h | ⟨h1,h2⟩ | ⟨h1,h2,h3⟩
   · go_enter Tryz.func128,Tryz.ntmps128
     go_wp2_with fail;go_ret2
     exact ⟨rfl,rfl⟩
   · go_enter Tryz.func128,Tryz.ntmps128
     go_wp2_with fail;go_ret2
     exact ⟨rfl,rfl⟩
   · go_enter Tryz.func128,Tryz.ntmps128
     go_wp2_with fail;refine (mem_size _ _ _ _ H.out).mono ?_;rintro e w1 ⟨rfl,rfl⟩;go_wp2_with fail;go_ret2
     exact ⟨rfl,rfl⟩
 · have hn:SpNewPost b bb m lo hi w=fun e w'=>∃ s,e=.returned (.tuple #[.pointer (some ⟨s,0,none⟩),.int .i64 0])∧RSp w' s b bb ⟨m,lo,hi,lo⟩∧w.heap.size≤s∧Keeps (fun _=>False) w w':=by
    funext e w'
    unfold SpNewPost Sp.newCode;rw [if_pos (by rw [if_neg hc])]
   rw [hn];clear hn;have h1:0≤lo:=by omega
   have h2:lo≤hi:=by omega
   have h3:hi≤m.size:=by omega
   clear hc
   go_enter Tryz.func128,Tryz.ntmps128
   go_wp2_with fail;refine (mem_size _ _ _ _ H.out).mono ?_;rintro e w1 ⟨rfl,rfl⟩;go_wp2_with fail;go_ret2
   exact ⟨w.heap.size,rfl,⟨halloc_at _ _,H.out.keeps (ka_ _ _) id id,by omega,by omega,h1,Int.le_refl _,h2,h3⟩,Nat.le_refl _,Keeps.alloc _ _ _⟩
theorem sp_chars1 (w:World) (s b bb:Nat) (x:Sp) (a:Int) (t:List UInt8) (ht:t.length≤4611686018427387904) (x0 x1:Nat) (h:RSp w s b bb x) (c0:w.cell? ⟨x0,0,none⟩=some (.pointer (some ⟨s,0,none⟩))) (c1:w.cell? ⟨x1,0,none⟩=some (.string ⟨t.toArray⟩)) :
 Calls Tryz.prog 254 #[.int .i64 a,.pointer (some ⟨x0,0,none⟩),.pointer (some ⟨x1,0,none⟩)] w (SetPost b bb (x.mem.setText a t) w):=by
 have h0:=h.c0;have H:=h_ h.mem;clear h
 go_enter Tryz.func254,Tryz.ntmps254
 go_wp2_with fail
 go_still_tail 6,(by kernel_rfl)
 change wpList _ _ _ _ _ w.drew
 go_wp2_with fail;refine (mem_setText _ _ _ _ _ t H.out.drew (by omega)).mono ?_
 rintro e w' hp;obtain ⟨rfl,h1,h2⟩:=hp.drew;have HP:=h_ (And.intro h1 h2);clear h1 h2 hp
 go_wp2
 go_ret
 exact ⟨rfl,HP.out.1,HP.out.2⟩
theorem sp_put_chars (w:World) (s b bb:Nat) (x:Sp) (t:List UInt8) (ht:t.length≤4611686018427387904) (x0 x1:Nat) (h:RSp w s b bb x) (c0:w.cell? ⟨x0,0,none⟩=some (.pointer (some ⟨s,0,none⟩))) (c1:w.cell? ⟨x1,0,none⟩=some (.string ⟨t.toArray⟩)) :
 Calls Tryz.prog 154 #[.pointer (some ⟨s,0,none⟩),.int .i64 (t.length:Int),.func (.func 254) #[] #[.pointer (some ⟨x0,0,none⟩),.pointer (some ⟨x1,0,none⟩)]] w (SpPost s b bb (x.chars t) w):=by
 have H:=h_ h;have h2:=h.c2;obtain ⟨b1,b2,b3,b4⟩:=h.bd;clear h;have HD:Hid (x.chars t=if (t.length:Int)≤x.to-x.here then (if (x.mem.setText x.here t).2≠0 then ({ x with mem:=(x.mem.setText x.here t).1 },(x.mem.setText x.here t).2) else Sp.allot { x with mem:=(x.mem.setText x.here t).1 } t.length) else x.allot t.length):=rfl
 have hsz:(x.mem.setText x.here t).1.size=x.mem.size:=Mem.setText_size _ _ _;have hcl:=h_ (sp_chars1 w s b bb x x.here t ht x0 x1 H.out c0 c1);generalize x.mem.setText x.here t=q at HD hsz hcl;generalize x.chars t=r at HD ⊢;have HS:=h_ hsz;clear hsz c0 c1;by_cases hle:(t.length:Int)≤x.to-x.here
 · have hq:=HD.out
   rw [if_pos hle] at hq;have HQ:=h_ hq;clear hq HD
   go_enter Tryz.func154,Tryz.ntmps154
   go_wp2_with fail;refine (sp_here _ _ _ _ _ H.out).mono ?_;rintro e w1 ⟨rfl,rfl⟩;go_wp2_with fail;refine hcl.out.mono ?_;rintro e w1 ⟨rfl,hm,hk⟩;have hx:=H.out.withMem hm HS.out hk;have HX:=h_ hx;have HK:=h_ (hk.mono (T:=fun k=>k=s∨k=bb) (fun _ _ e=>.inr e))
   clear hm hk hx;by_cases hz:q.2=0
   · have hz':(q.2 != 0)=false:=by simp [hz]
     have hq:=HQ.out;rw [if_neg (by simp [hz])] at hq
     subst hq;go_wp2_with fail;refine (sp_allot _ _ _ _ _ _ HX.out).mono ?_;rintro e w2 ⟨rfl,h1,h2⟩;have HP:=h_ (And.intro h1 (HK.out.trans h2));clear h1 h2
     go_wp2
     go_ret
     exact ⟨rfl,HP.out.1,HP.out.2⟩
   · have hz':(q.2 != 0)=true:=by simp [hz]
     have hq:=HQ.out;rw [if_pos hz] at hq;subst hq
     go_wp2
     go_ret
     exact ⟨rfl,HX.out,HK.out⟩
 · have hq:=HD.out
   rw [if_neg hle] at hq;subst hq;clear HD;have hle':x.to-x.here<(t.length:Int):=by omega
   go_enter Tryz.func154,Tryz.ntmps154
   go_wp2_with fail;refine (sp_here _ _ _ _ _ H.out).mono ?_;rintro e w1 ⟨rfl,rfl⟩;go_wp2_with fail;refine (sp_allot _ _ _ _ _ _ H.out).mono ?_;rintro e w2 ⟨rfl,h1,h2⟩;have HP:=h_ (And.intro h1 h2);clear h1 h2
   go_wp2
   go_ret
   exact ⟨rfl,HP.out.1,HP.out.2⟩
theorem sp_chars (w:World) (s b bb:Nat) (x:Sp) (t:List UInt8) (ht:t.length≤4611686018427387904) (h:RSp w s b bb x) :
 Calls Tryz.prog 151 #[.pointer (some ⟨s,0,none⟩),.string ⟨t.toArray⟩] w (SpPost s b bb (x.chars t) w):=by
 have hmf:∀ (fn:Fn) (first cap:Array Value) (w:World),(Instr.makeFunc fn first cap).run Tryz.prog w=.ok (.func fn first cap) w:=fun _ _ _ _=>rfl
 have hp:=sp_put_chars ((w.alloc (.cells #[.pointer (some ⟨s,0,none⟩)] 41)).alloc (.cells #[.string ⟨t.toArray⟩] 9)) s b bb x t ht w.heap.size (w.heap.size+1)
  ((h.allocd _).allocd _) (by rw [World.cell?_alloc_lt _ _ _ (by simp)];exact World.cell?_alloc_new _ _ _ _) (by simp)
 have HP:=h_ hp;have HK:Hid (Keeps (fun k=>k=s∨k=bb) w ((w.alloc (.cells #[.pointer (some ⟨s,0,none⟩)] 41)).alloc (.cells #[.string ⟨t.toArray⟩] 9))):=(Keeps.alloc _ _ _).trans (Keeps.alloc _ _ _)
 clear hp h
 go_enter Tryz.func151,Tryz.ntmps151
 go_wp2_with fail;refine HP.out.mono ?_;rintro e w1 ⟨rfl,h1,h2⟩;have HQ:=h_ (And.intro h1 (HK.out.trans h2));clear h1 h2
 go_wp2
 go_ret
 exact ⟨rfl,HQ.out.1,HQ.out.2⟩
theorem RMem.allocd {w:World} {b bb:Nat} {m:Mem} (h:RMem w b bb m) (o:Obj):RMem (w.alloc o) b bb m:=h.keeps (ka_ w o) id id
theorem tab_slots (w:World) (b bb:Nat) (m:Mem) (t:Int) (h:RMem w b bb m) :
 Calls Tryz.prog 180 #[.pointer (some ⟨b,0,none⟩),.int .i64 t] w fun e w'=>e=.returned (.int .i64 (Tab.slots m t))∧w=w':=by
 have H:=h_ h;clear h;have HD:Hid (Tab.slots m t=if (m.cell t).2≠0∨(m.cell t).1<1∨1024<(m.cell t).1 then 0 else if (m.text t ((2+(m.cell t).1*3)*8)).2≠0 then 0 else (m.cell t).1):=rfl
 have hc:=h_ (mem_cell w b bb m t H.out);generalize Tab.slots m t=r at HD ⊢;generalize m.cell t=q at HD hc;obtain ⟨n,e⟩:=q;simp only at HD hc
 by_cases h1:e=0
 · subst h1
   by_cases h2:n<1
   · have hr:r=0:=by rw [HD.out,if_pos (by omega)]
     subst hr;clear HD
     go_enter Tryz.func180,Tryz.ntmps180
     go_wp2_with fail;refine hc.out.mono ?_;rintro e w1 ⟨rfl,rfl⟩;go_wp2_with fail;go_ret
     exact ⟨rfl,rfl⟩
   · by_cases h3:1024<n
     · have hr:r=0:=by rw [HD.out,if_pos (by omega)]
       subst hr;clear HD;have h2':1≤n:=by omega
       go_enter Tryz.func180,Tryz.ntmps180
       go_wp2_with fail;refine hc.out.mono ?_;rintro e w1 ⟨rfl,rfl⟩;go_wp2_with fail;go_ret
       exact ⟨rfl,rfl⟩
     · have hr:r=if (m.text t ((2+n*3)*8)).2≠0 then 0 else n:=by rw [HD.out,if_neg (by omega)]
       have HR:=h_ hr;clear HD hr;have h2':1≤n:=by omega
       have h3':n≤1024:=by omega
       have ht:=h_ (mem_text w b bb m t ((2+n*3)*8) H.out);generalize m.text t ((2+n*3)*8)=q at HR ht;obtain ⟨s,e⟩:=q;simp only at HR ht
       go_enter Tryz.func180,Tryz.ntmps180
       go_wp2_with fail;refine hc.out.mono ?_;rintro e w1 ⟨rfl,rfl⟩;go_wp2_with fail;refine ht.out.mono ?_;rintro e w1 ⟨rfl,rfl⟩;by_cases h4:e=0
       · have h4':(e != 0)=false:=by simp [h4]
         go_wp2_with fail;go_ret
         exact ⟨ret_int (by rw [HR.out,if_neg (by simpa using h4)]),rfl⟩
       · have h4':(e != 0)=true:=by simp [h4]
         go_wp2_with fail;go_ret
         exact ⟨ret_int (by rw [HR.out,if_pos h4]),rfl⟩
 · have hr:r=0:=by rw [HD.out,if_pos (by omega)]
   subst hr;clear HD;have h1':(e != 0)=true:=by simp [h1]
   go_enter Tryz.func180,Tryz.ntmps180
   go_wp2_with fail;refine hc.out.mono ?_;rintro e w1 ⟨rfl,rfl⟩;go_wp2_with fail;go_ret
   exact ⟨rfl,rfl⟩
theorem tab_at (w:World) (t i:Int) (h0 : -4611686018427387904≤t) (h1:t≤4611686018427387904) (h2:0≤i) (h3:i≤4096) :
 Calls Tryz.prog 394 #[.int .i64 t,.int .i64 i] w fun e w'=>e=.returned (.int .i64 (Tab.pos t i))∧w=w':=by
 go_enter Tryz.func394,Tryz.ntmps394
 go_wp2
 go_ret
 exact ⟨rfl,rfl⟩
theorem tab_home (w:World) (sel n:Int) (h0:1≤n) (h1:n≤4096) :
 Calls Tryz.prog 395 #[.int .i64 sel,.int .i64 n] w fun e w'=>e=.returned (.int .i64 (Tab.home sel n))∧w=w':=by
 go_enter Tryz.func395,Tryz.ntmps395
 go_wp2
 go_ret
 exact ⟨rfl,rfl⟩
def Ent.val (x:Ent):Value:=.agg #[.int .i64 x.sel,.int .i64 x.xt,.int .i64 x.cls]
theorem tab_read (w:World) (b bb:Nat) (m:Mem) (t i:Int) (h:RMem w b bb m) (h0 : -4611686018427387904≤t) (h1:t≤4611686018427387904) (h2:0≤i) (h3:i≤4096) :
 Calls Tryz.prog 282 #[.pointer (some ⟨b,0,none⟩),.int .i64 t,.int .i64 i] w fun e w'=>e=.returned (Tab.read m t i).val∧Keeps (fun _=>False) w w':=by
 have H:=h_ h;clear h;have hat:=fun w=>tab_at w t i h0 h1 h2 h3
 have hp : -4611686018427387904≤Tab.pos t i∧Tab.pos t i≤4611686018427487904:=by unfold Tab.pos;omega
 have HD:Hid (Tab.read m t i=⟨(m.cell (Tab.pos t i)).1,(m.cell (Tab.pos t i+8)).1,(m.cell (Tab.pos t i+16)).1⟩):=rfl;generalize Tab.read m t i=r at HD ⊢;generalize Tab.pos t i=p at hp hat HD;obtain ⟨hp1,hp2⟩:=hp;have HA:=h_ hat;have hc:=h_ fun w H=>mem_cell w b bb m p H
 have hc1:=h_ fun w H=>mem_cell w b bb m (p+8) H
 have hc2:=h_ fun w H=>mem_cell w b bb m (p+16) H
 have hr:=HD.out;clear HD hat;generalize m.cell p=q0 at hc hr;generalize m.cell (p+8)=q1 at hc1 hr;generalize m.cell (p+16)=q2 at hc2 hr;obtain ⟨q00,q01⟩:=q0;obtain ⟨q10,q11⟩:=q1;obtain ⟨q20,q21⟩:=q2;subst hr
 go_enter Tryz.func282,Tryz.ntmps282
 go_wp2_with fail;refine (HA.out _).mono ?_;rintro e w1 ⟨rfl,rfl⟩;go_wp2_with fail;refine (hc.out _ (by exact H.out.allocd _)).mono ?_
 rintro e w1 ⟨rfl,rfl⟩;go_wp2_with fail;refine (hc1.out _ (by exact H.out.allocd _)).mono ?_
 rintro e w1 ⟨rfl,rfl⟩;go_wp2_with fail;refine (hc2.out _ (by exact H.out.allocd _)).mono ?_
 rintro e w1 ⟨rfl,rfl⟩;go_wp2_with fail;exact bodyPost_ret (v:=.agg #[.int .i64 q00,.int .i64 q10,.int .i64 q20]) (by simp [results,Tryz.results282,go_sem]) rfl ⟨rfl,Keeps.alloc _ _ _⟩
def probeV (r:Int × Int):Ending:=.returned (.tuple #[.int .i64 r.1,.int .i64 r.2])
theorem tab_probe (w:World) (b bb:Nat) (m:Mem) (t sel:Int) (h:RMem w b bb m) :
 Calls Tryz.prog 283 #[.pointer (some ⟨b,0,none⟩),.int .i64 t,.int .i64 sel] w fun e w'=>e=probeV (Tab.probe m t sel)∧Keeps (fun _=>False) w w':=by
 have H:=h_ h;have hle:=h.le;clear h;obtain ⟨hs0,hs1⟩:=Tab.slots_bd m t;have hin:=Tab.slots_in m t;have hS:=fun w H=>tab_slots w b bb m t H
 have HD:Hid (Tab.probe m t sel=Tab.probeN m t sel (Tab.slots m t) (Tab.slots m t).toNat 0):=rfl;generalize Tab.probe m t sel=r at HD ⊢;generalize Tab.slots m t=n at hs0 hs1 hin hS HD;have HS:=h_ hS;have HI:=h_ hin;clear hS hin
 go_enter Tryz.func283,Tryz.ntmps283
 go_wp2_with fail;refine (HS.out _ H.out).mono ?_;rintro e w1 ⟨rfl,rfl⟩;go_wp2_with fail
 go_loopw [9] (fun v wr=>∃ i:Int,0≤i∧i≤n∧v=.int .i64 i∧RMem wr b bb m∧Keeps (fun _=>False) w wr∧r=Tab.probeN m t sel n (n-i).toNat i) (fun v _=>(n-intOf v).toNat)
 case atStart=>exact ⟨0,Int.le_refl _,hs0,rfl,H.out,Keeps.refl _ _,by rw [HD.out,Int.sub_zero]⟩
 case round =>
  obtain ⟨i,hi0,hi1,rfl,hm,hw,hr⟩:=hrel;have HM:=h_ hm;have HR:=h_ hr;have HW:=h_ hw;clear hm hr hw HD;by_cases hlt:i<n
  · have hn1:1≤n:=by omega
    obtain ⟨t0,t1,t2⟩:=HI.out (by omega)
    obtain ⟨hm0,hm1⟩:=Tab.home_bd sel n (by omega)
    have hh:=fun w=>tab_home w sel n hn1 (by omega)
    have hstep:Tab.probeN m t sel n (n-i).toNat i=if (Tab.read m t ((Tab.home sel n+i) % n)).sel=sel∨(Tab.read m t ((Tab.home sel n+i) % n)).sel=0 then ((Tab.home sel n+i) % n,i+1) else Tab.probeN m t sel n (n-(i+1)).toNat (i+1):=by
     rw [show (n-i).toNat=(n-(i+1)).toNat+1 by omega,Tab.probeN]
    generalize Tab.home sel n=h at hm0 hm1 hh hstep;have HH:=h_ hh;have k0:0≤(h+i) % n:=Int.emod_nonneg _ (by omega)
    have k1:(h+i) % n<n:=Int.emod_lt_of_pos _ (by omega)
    have hrd:=fun w H=>tab_read w b bb m t ((h+i) % n) H (by omega) (by omega) k0 (by omega)
    generalize hk:(h+i) % n=k at k0 k1 hrd hstep;have HK:=h_ hk;generalize Tab.read m t k=x at hrd hstep;obtain ⟨x1,x2,x3⟩:=x;have HX:=h_ hrd;have HP:=h_ hstep;clear hrd hstep hk hh;go_wp2_with fail;refine (HH.out _).mono ?_;rintro e w1 ⟨rfl,rfl⟩;go_wp2_with fail;rw [HK.out];refine (HX.out _ HM.out).mono ?_;rintro e w2 ⟨rfl,hk2⟩;have HM2:=h_ ((HM.out.keeps hk2 id id).allocd (.cells #[.int .i64 x1,.int .i64 x2,.int .i64 x3] 279));have HW2:=h_ ((HW.out.trans hk2).trans (ka_ w2 (.cells #[.int .i64 x1,.int .i64 x2,.int .i64 x3] 279)));clear hk2;unfold Ent.val;by_cases hx1:x1=sel
    · have hx1':(x1 == sel)=true:=by simp [hx1]
      have hx1h:=h_ hx1;clear hx1;go_wp2_with fail;go_ret2
      exact ⟨by rw [HR.out,HP.out,if_pos (.inl hx1h.out)];rfl,HW2.out⟩
    · have hx1':(x1 == sel)=false:=by simp [hx1]
      by_cases hx2:x1=0
      · have hx2':(x1 == 0)=true:=by simp [hx2]
        have hx2h:=h_ hx2;clear hx2;go_wp2_with fail;go_ret2
        exact ⟨by rw [HR.out,HP.out,if_pos (.inr hx2h.out)];rfl,HW2.out⟩
      · have hx2':(x1 == 0)=false:=by simp [hx2]
        go_wp2_with fail
        go_roundw
        case rel=>exact ⟨i+1,by omega,by omega,rfl,HM2.out,HW2.out,by rw [HR.out,HP.out,if_neg (by simp [hx1,hx2])]⟩
        case measure=>simp [intOf];omega
  · have hni:n≤i:=by omega
    go_wp2_with fail;go_ret2
    refine ⟨?_,HW.out⟩;rw [HR.out,show (n-i).toNat=0 by omega]
    rfl
set_option maxHeartbeats 1000000
def getV (r:Ent × Int × Bool):Ending:=.returned (.tuple #[r.1.val,.int .i64 r.2.1,.bool r.2.2])
theorem tab_get (w:World) (b bb:Nat) (m:Mem) (t sel:Int) (h:RMem w b bb m) :
 Calls Tryz.prog 182 #[.pointer (some ⟨b,0,none⟩),.int .i64 t,.int .i64 sel] w fun e w'=>e=getV (Tab.get m t sel)∧Keeps (fun _=>False) w w':=by
 have H:=h_ h;have hle:=h.le;clear h;have hin:=Tab.slots_in m t;obtain ⟨hs0,hs1⟩:=Tab.slots_bd m t;obtain ⟨hp0,hp1⟩:=Tab.probe_bd m t sel;have hP:=fun w H=>tab_probe w b bb m t sel H
 have HD:Hid (Tab.get m t sel=if (Tab.probe m t sel).1<0∨sel<1 then (⟨0,0,0⟩,(Tab.probe m t sel).2,false) else if (Tab.read m t (Tab.probe m t sel).1).sel≠sel then (⟨0,0,0⟩,(Tab.probe m t sel).2,false) else (Tab.read m t (Tab.probe m t sel).1,(Tab.probe m t sel).2,true)):=rfl
 generalize Tab.get m t sel=r at HD ⊢;generalize Tab.slots m t=n at hin hs0 hs1 hp1;generalize Tab.probe m t sel=q at hp0 hp1 hP HD;obtain ⟨i,c⟩:=q;have HP:=h_ hP;clear hP;simp only at hp0 hp1 HD
 unfold probeV at HP;by_cases h1:i<0∨sel<1
 · have hr:=HD.out
   rw [if_pos h1] at hr;subst hr;clear HD hin;have h1':i<0∨(0≤i∧sel<1):=by omega
   clear h1 hp1
   rcases h1' with h1 | ⟨h1,h2⟩
   all_goals
    go_enter Tryz.func182,Tryz.ntmps182
    go_wp2_with fail;refine (HP.out _ (by exact H.out.allocd _)).mono ?_
    rintro e w1 ⟨rfl,k1⟩;have hB:w1.heap[w.heap.size]?=some (.cells #[.int .i64 0,.int .i64 0,.int .i64 0] 279 (0,0)):=k1.heap (halloc_at _ _) id;have c0:=cell_of (i:=0) hB rfl;have c1:=cell_of (i:=1) hB rfl;have c2:=cell_of (i:=2) hB rfl;have f0:=free_of (i:=0) hB;have f1:=free_of (i:=1) hB;have f2:=free_of (i:=2) hB;have hB2:=hset3 hB (.int .i64 0) (.int .i64 0) (.int .i64 0);have d0:=cell_of (i:=0) hB2 rfl;have d1:=cell_of (i:=1) hB2 rfl;have d2:=cell_of (i:=2) hB2 rfl;have HK:=h_ (((((ka_ w _).trans k1).setNew ⟨w.heap.size,0,none⟩ (.int .i64 0) (Nat.le_refl _)).setNew ⟨w.heap.size,1,none⟩ (.int .i64 0) (Nat.le_refl _)).setNew ⟨w.heap.size,2,none⟩ (.int .i64 0) (Nat.le_refl _));clear hB hB2 k1;go_wp2_with fail;exact bodyPost_ret (v:=.tuple #[.agg #[.int .i64 0,.int .i64 0,.int .i64 0],.int .i64 c,.bool false]) (by simp [results,Tryz.results182,go_sem,d0,d1,d2]) rfl ⟨rfl,HK.out⟩
 · have h2:0≤i:=by omega
   have h3:1≤sel:=by omega
   have hr:=HD.out;rw [if_neg h1] at hr;obtain ⟨t0,t1,t2⟩:=hin (by omega)
   have hrd:=fun w H=>tab_read w b bb m t i H (by omega) (by omega) h2 (by omega)
   generalize Tab.read m t i=x at hrd hr;obtain ⟨x1,x2,x3⟩:=x;have HX:=h_ hrd;have HR:=h_ hr;clear hrd hr HD hin h1 hp1
   go_enter Tryz.func182,Tryz.ntmps182
   go_wp2_with fail;refine (HP.out _ (by exact H.out.allocd _)).mono ?_
   rintro e w1 ⟨rfl,k1⟩;have M1:=h_ ((H.out.allocd (.cells #[.int .i64 0,.int .i64 0,.int .i64 0] 279)).keeps k1 id id);have hB0:w1.heap[w.heap.size]?=some (.cells #[.int .i64 0,.int .i64 0,.int .i64 0] 279 (0,0)):=k1.heap (halloc_at _ _) id;go_wp2_with fail;refine (HX.out _ M1.out).mono ?_;rintro e w2 ⟨rfl,k2⟩;have M2:=h_ ((M1.out.keeps k2 id id).allocd (.cells #[.int .i64 x1,.int .i64 x2,.int .i64 x3] 279));have hB:w2.heap[w.heap.size]?=some (.cells #[.int .i64 0,.int .i64 0,.int .i64 0] 279 (0,0)):=k2.heap hB0 id;have hlt:w.heap.size<w2.heap.size:=lt_of_heap (k2.heap hB0 id);have HK0:=((ka_ w (.cells #[.int .i64 0,.int .i64 0,.int .i64 0] 279)).trans k1).trans k2;clear k1 k2 hB0;unfold Ent.val;have c0:=cell_of (i:=0) hB rfl;have c1:=cell_of (i:=1) hB rfl;have c2:=cell_of (i:=2) hB rfl;have f0:=free_of (i:=0) hB;have f1:=free_of (i:=1) hB;have f2:=free_of (i:=2) hB;by_cases hx:x1=sel
   · have hx':(x1 != sel)=false:=by simp [hx]
     have hr:=HR.out;rw [if_neg (by simpa using hx)] at hr
     subst hr;have hB2:=hset3 hB (.int .i64 x1) (.int .i64 x2) (.int .i64 x3);have d0:=cell_of (i:=0) hB2 rfl;have d1:=cell_of (i:=1) hB2 rfl;have d2:=cell_of (i:=2) hB2 rfl;have HK:=h_ ((((HK0.setNew ⟨w.heap.size,0,none⟩ (.int .i64 x1) (Nat.le_refl _)).setNew ⟨w.heap.size,1,none⟩ (.int .i64 x2) (Nat.le_refl _)).setNew ⟨w.heap.size,2,none⟩ (.int .i64 x3) (Nat.le_refl _)).trans (ka_ _ (.cells #[.int .i64 x1,.int .i64 x2,.int .i64 x3] 279)));clear hB hB2 HK0 hx;go_wp2_with fail;exact bodyPost_ret (v:=.tuple #[.agg #[.int .i64 x1,.int .i64 x2,.int .i64 x3],.int .i64 c,.bool true]) (by simp [results,Tryz.results182,go_sem,d0,d1,d2,hlt]) rfl ⟨rfl,HK.out⟩
   · have hx':(x1 != sel)=true:=by simp [hx]
     have hr:=HR.out;rw [if_pos (by simpa using hx)] at hr
     subst hr;have hB2:=hset3 hB (.int .i64 0) (.int .i64 0) (.int .i64 0);have d0:=cell_of (i:=0) hB2 rfl;have d1:=cell_of (i:=1) hB2 rfl;have d2:=cell_of (i:=2) hB2 rfl;have HK:=h_ ((((HK0.setNew ⟨w.heap.size,0,none⟩ (.int .i64 0) (Nat.le_refl _)).setNew ⟨w.heap.size,1,none⟩ (.int .i64 0) (Nat.le_refl _)).setNew ⟨w.heap.size,2,none⟩ (.int .i64 0) (Nat.le_refl _)).trans (ka_ _ (.cells #[.int .i64 x1,.int .i64 x2,.int .i64 x3] 279)));clear hB hB2 HK0 hx;go_wp2_with fail;exact bodyPost_ret (v:=.tuple #[.agg #[.int .i64 0,.int .i64 0,.int .i64 0],.int .i64 c,.bool false]) (by simp [results,Tryz.results182,go_sem,d0,d1,d2,hlt]) rfl ⟨rfl,HK.out⟩
end Go.Proofs.Shed
namespace Go.Proofs.Cod
open Go Go.RowKit Go.Proofs.K
def nm (l:List UInt8):Value:=.string ⟨l.toArray⟩
def names:List (List UInt8):=[[101,120,105,116],[108,105,116],[98,114,97,110,99,104],[48,98,114,97,110,99,104],[40,100,111,41],[40,108,111,111,112,41],[40,43,108,111,111,112,41],[105],[106],[117,110,108,111,111,112],[100,117,112],[100,114,111,112],[115,119,97,112],[111,118,101,114],[114,111,116],[110,105,112],[116,117,99,107],[63,100,117,112],[112,105,99,107],[100,101,112,116,104],[62,114],[114,62],[114,64],[43],[45],[42],[47],[109,111,100],[97,110,100],[111,114],[120,111,114],[108,115,104,105,102,116],[114,115,104,105,102,116],[61],[60,62],[60],[62],[117,60],[109,105,110],[109,97,120],[110,101,103,97,116,101],[105,110,118,101,114,116],[97,98,115],[48,61],[48,60],[49,43],[99,104,97,114,43],[49,45],[50,42],[50,47],[99,101,108,108,115],[99,101,108,108,43],[97,108,105,103,110,101,100],[64],[33],[99,64],[99,33],[43,33],[104,101,114,101],[97,108,108,111,116],[44],[99,44],[97,108,105,103,110],[101,109,105,116],[99,114],[115,112,97,99,101],[116,121,112,101],[46],[117,46],[107,101,121],[101,120,101,99,117,116,101],[99,97,116,99,104],[116,104,114,111,119],[40,99,97,117,103,104,116,41],[97,98,111,114,116],[97,108,108,111,99,97,116,101],[102,114,101,101],[114,101,115,105,122,101],[115,101,108,102],[110,101,119],[99,108,97,115,115,111,102],[40,115,101,110,100,41],[40,99,97,108,108,41],[40,115,117,112,101,114,41],[40,101,120,105,116,109,41],[98,121,101]]
theorem names_len:names.length=86:=by decide +kernel
theorem run_names (a:Act) (w:World):(execOp a.eval (match Tryz.f208.body with
 | some (.seq _ (.seq (.region _ ops _) _))=>ops[0]!
 | _=>default)).run Tryz.prog w=.ok (.value (.slice (some ⟨w.heap.size,0,none⟩) 86 86)) (w.alloc (.cells (names.map nm).toArray 9)):=by kernel_rfl
theorem names_any (w:World):Calls Tryz.prog 208 #[] w fun e w'=>e=.returned (.slice (some ⟨w.heap.size,0,none⟩) 86 86)∧w.alloc (.cells (names.map nm).toArray 9)=w':=by
 go_enter Tryz.func208,Tryz.ntmps208
 go_wp2_with (with_reducible refine wpList_run rfl _ _ (run_names _ _) ?_)
 go_ret
 exact ⟨rfl,rfl⟩
theorem info9:(Tryz.prog.info? 9).map (fun i=>(i.zero,i.size,i.bytes))=some (some (.string ⟨#[]⟩),1,16):=by kernel_rfl
def place (v:List UInt8):List (List UInt8)→Nat
 | []=>0
 | x :: l=>if v=x then 0 else place v l+1
def idx (v:List UInt8) (l:List (List UInt8)):Int:=if place v l<l.length then place v l else -1
theorem place_hit {v:List UInt8} {l:List (List UInt8)} {k:Nat} (hk:k<l.length) (hno:∀ j,j<k→(h:j<l.length)→v≠l[j]) (e:v=l[k]):place v l=k:=by
 induction l generalizing k with
 | nil=>simp at hk
 | cons x l ih =>
  rw [place]
  cases k with
  | zero=>rw [if_pos (show v=x from e)]
  | succ k =>
   rw [if_neg (show v≠x from hno 0 (by omega) (by simp)),ih (k:=k) (by simpa using hk) (fun j hj h=>hno (j+1) (by omega) (by simpa using h)) (by simpa using e)]
theorem place_miss {v:List UInt8} {l:List (List UInt8)} (hno:∀ j,(h:j<l.length)→v≠l[j]):place v l=l.length:=by
 induction l with
 | nil=>rfl
 | cons x l ih =>
  rw [place,if_neg (show v≠x from hno 0 (by simp)),ih (fun j h=>hno (j+1) (by simpa using h))]
  rfl
theorem idx_hit {v:List UInt8} {l:List (List UInt8)} {k:Nat} (hk:k<l.length) (hno:∀ j,j<k→(h:j<l.length)→v≠l[j]) (e:v=l[k]):(k:Int)=idx v l:=by
 rw [idx,place_hit hk hno e,if_pos hk]
theorem idx_miss {v:List UInt8} {l:List (List UInt8)} (hno:∀ j,(h:j<l.length)→v≠l[j]):(-1:Int)=idx v l:=by
 rw [idx,place_miss hno,if_neg (by omega)]
theorem ret_idx {a b:Int} (h:a=b):Ending.returned (.int .i64 a)=.returned (.int .i64 b):=by rw [h]
theorem own_str {w:World} {a:Option Addr} {n c:Nat} {ss:List (List UInt8)} (h:Own w 9 1 a n c (ss.map nm)) (i:Nat) (hi:i<ss.length) :
 ∃ g,a=some ⟨g,0,none⟩∧w.cell? ⟨g,i,none⟩=some (nm ss[i]):=by
 have hn:n=ss.length:=by have:=h.1;simp at this;omega
 obtain ⟨g,rfl⟩:∃ g,a=some ⟨g,0,none⟩:=by
  rcases h.form with ⟨_,h,_⟩ | ⟨g,_,h,_⟩
  · omega
  · exact ⟨_,h⟩
 exact ⟨g,rfl,h.cell (by simp [hi])⟩
set_option maxRecDepth 10000 in
theorem index_any (a:Option Addr) (n c:Nat) (ss:List (List UInt8)) (v:List UInt8) (w:World) (h:Own w 9 1 a n c (ss.map nm)) (hn:n=ss.length) (hl:n≤100000) :
 Calls Tryz.prog 207 #[.slice a n c,.string ⟨v.toArray⟩] w fun e w'=>e=.returned (.int .i64 (idx v ss))∧w=w':=by
 go_enter Tryz.func207,Tryz.ntmps207
 go_wp2
 go_loop [8] (fun i=>∃ k:Nat,k≤ss.length∧i=.int .i64 k∧∀ j,j<k→(h:j<ss.length)→v≠ss[j]) (fun i=>ss.length-(intOf i).toNat)
 case atStart=>exact ⟨0,Nat.zero_le _,rfl,fun j hj=>by omega⟩
 case round =>
  obtain ⟨k,hk,rfl,hno⟩:=hrel;by_cases hlt:k<ss.length
  · obtain ⟨g,rfl,hc⟩:=own_str h k hlt
    have b1:(k:Int)<n:=by omega
    have b2:(0:Int)≤k:=by omega
    have HN:=h_ hno;have Hn:=h_ hn;clear hno hn;generalize hx:ss[k]=x at hc;unfold nm at hc;have HX:=h_ hx;clear hx
    go_wp2
    · have e:v=ss[k]:=by
       have:(v == x)=true:=by assumption
       rw [HX.out];simpa using this
      go_ret
      exact ⟨ret_idx (idx_hit hlt HN.out e),rfl⟩
    · have e:v≠ss[k]:=by
       have:(v == x)=false:=by assumption
       rw [HX.out];simpa using this
      go_round
      case rel =>
       refine ⟨k+1,by omega,by go_num,fun j hj hjl=>?_⟩
       by_cases hjk:j=k
       · subst hjk;exact e
       · exact HN.out j (by omega) hjl
      case measure=>simp [intOf];omega
  · have b1:(n:Int)≤k:=by omega
    have HN:=h_ hno;have Hn:=h_ hn;clear hno hn
    go_wp2
    go_ret
    exact ⟨ret_idx (idx_miss (fun j h=>HN.out j (by omega) h)),rfl⟩
set_option maxRecDepth 10000 in
theorem contains_any (a:Option Addr) (n c:Nat) (ss:List (List UInt8)) (v:List UInt8) (w:World) (h:Own w 9 1 a n c (ss.map nm)) (hn:n=ss.length) (hl:n≤100000) :
 Calls Tryz.prog 419 #[.slice a n c,.string ⟨v.toArray⟩] w fun e w'=>e=.returned (.bool (decide (0≤idx v ss)))∧w=w':=by
 have HN:=h_ hn;clear hn
 go_enter Tryz.func419,Tryz.ntmps419
 go_wp2_with fail;refine (index_any a n c ss v w h HN.out hl).mono ?_;rintro e w1 ⟨rfl,rfl⟩
 go_wp2
 go_ret
 exact ⟨rfl,rfl⟩
theorem own_names (w:World):Own (w.alloc (.cells (names.map nm).toArray 9)) 9 1 (some ⟨w.heap.size,0,none⟩) 86 86 (names.map nm):=by
 refine ⟨by decide +kernel,.inr ⟨w.heap.size,86,_,rfl,Nat.zero_le _,halloc_at _ _,Nat.le_refl _,by decide,by decide +kernel,?_⟩⟩
 have:(names.map nm).length=86*1:=by decide +kernel
 show (names.map nm).take (86*1)=names.map nm
 rw [← this];exact List.take_length
theorem idx_bd (v:List UInt8) (l:List (List UInt8)) (n:Nat) (hn:l.length=n) : -1≤idx v l∧idx v l<n:=by
 unfold idx;split <;> omega
def num (v:List UInt8):Int:=idx v names+1
set_option maxRecDepth 10000 in
theorem number_any (v:List UInt8) (w:World):Calls Tryz.prog 121 #[.string ⟨v.toArray⟩] w fun e w'=>e=.returned (.int .i64 (num v))∧Keeps (fun _=>False) w w':=by
 have hb:=idx_bd v names 86 names_len;have HF:=h_ (show num v=idx v names+1 from rfl)
 generalize num v=r at HF ⊢;have hi:=fun w=>index_any (some ⟨w.heap.size,0,none⟩) 86 86 names v _ (own_names w) names_len.symm (by omega)
 generalize idx v names=q at hi hb HF;have HI:=h_ hi;clear hi
 go_enter Tryz.func121,Tryz.ntmps121
 go_wp2_with fail;refine (names_any _).mono ?_;rintro e w1 ⟨rfl,rfl⟩;go_wp2_with fail;refine (HI.out _).mono ?_;rintro e w1 ⟨rfl,rfl⟩
 go_wp2
 go_ret
 exact ⟨ret_idx HF.out.symm,Keeps.alloc _ _ _⟩
def nameOf (n:Int):List UInt8:=if 1≤n∧n≤86 then names.getD (n-1).toNat [] else []
set_option maxRecDepth 10000 in
theorem name_any (n:Int) (w:World):Calls Tryz.prog 375 #[.int .i64 n] w fun e w'=>e=.returned (nm (nameOf n))∧Keeps (fun _=>False) w w':=by
 by_cases h:1≤n∧n≤86
 · have HN:Hid (nameOf n=names.getD (n-1).toNat []):=by unfold nameOf;rw [if_pos h];exact rfl
   obtain ⟨h1,h2⟩:=h;generalize nameOf n=r at HN ⊢;obtain ⟨k,rfl⟩:∃ k:Nat,n=k+1:=⟨(n-1).toNat,by omega⟩
   have hk:k<names.length:=by rw [names_len];omega
   obtain ⟨g,hg,hc⟩:=own_str (own_names w) k hk
   cases hg
   have hr:names[k]=r:=by
    rw [HN.out,show ((k:Int)+1-1).toNat=k by omega,List.getD_eq_getElem?_getD,List.getElem?_eq_getElem hk]
    rfl
   rw [hr] at hc;have HR:=h_ hr;clear hr HN;unfold nm at hc
   go_enter Tryz.func375,Tryz.ntmps375
   go_wp2_with fail;refine (names_any _).mono ?_;rintro e w1 ⟨rfl,rfl⟩
   go_wp2
   go_ret
   refine ⟨?_,Keeps.alloc _ _ _⟩
   show Ending.returned (nm names[k])=_
   rw [HR.out]
 · have HN:Hid (nameOf n=[]):=by unfold nameOf;rw [if_neg h];exact rfl
   rw [HN.out];have h:n<1∨(1≤n∧86<n):=by omega
   rcases h with h | ⟨h,h2⟩
   all_goals
    go_enter Tryz.func375,Tryz.ntmps375
    go_wp2_with fail;refine (names_any _).mono ?_;rintro e w1 ⟨rfl,rfl⟩
    go_wp2
    go_ret
    exact ⟨rfl,Keeps.alloc _ _ _⟩
def inl (v:List UInt8):Int:=if v == [108,105,116] then 1 else if v == [98,114,97,110,99,104] then 1 else if v == [48,98,114,97,110,99,104] then 1 else if v == [40,108,111,111,112,41] then 1 else if v == [40,43,108,111,111,112,41] then 1 else if v == [40,115,101,110,100,41] then 1 else if v == [40,99,97,108,108,41] then 1 else if v == [40,115,117,112,101,114,41] then 2 else 0
def inner0:List (List UInt8):=[[101,120,105,116],[40,100,111,41],[40,99,97,117,103,104,116,41],[40,101,120,105,116,109,41],[105],[106],[117,110,108,111,111,112],[62,114],[114,62],[114,64]]
theorem inl_bd (v:List UInt8):0≤inl v∧inl v≤2:=by
 unfold inl
 repeat' split
 all_goals decide
set_option maxRecDepth 10000 in
theorem inline_any (v:List UInt8) (w:World):(Calls Tryz.prog 377 #[.string ⟨v.toArray⟩] w fun e w'=>e=.returned (.int .i64 (inl v))∧w=w'):=by
 go_enter Tryz.func377,Tryz.ntmps377
 go_wp2
 all_goals first
  | (exfalso;simp_all;done)
  | (go_ret;exact ⟨ret_idx (by simp [inl, *]),rfl⟩)
theorem idx_mem (v:List UInt8) (l:List (List UInt8)):(0≤idx v l) ↔ v ∈ l:=by
 have:place v l<l.length ↔ v ∈ l:=by
  induction l with
  | nil=>simp [place]
  | cons x l ih =>
   rw [place];split
   · rename_i h;simp [h]
   · rename_i h;simp [h,← ih]
 unfold idx;split
 · rename_i h;simp [this.1 h]
 · rename_i h;simp [mt this.2 h]
def inn (v:List UInt8):Bool:=decide (0<inl v) || decide (v ∈ inner0)
theorem own_inner (w:World):Own (w.alloc (.cells (inner0.map nm).toArray 9)) 9 1 (some ⟨w.heap.size,0,none⟩) 10 10 (inner0.map nm):=by
 refine ⟨by decide +kernel,.inr ⟨w.heap.size,10,_,rfl,Nat.zero_le _,halloc_at _ _,Nat.le_refl _,by decide,by decide +kernel,?_⟩⟩
 have:(inner0.map nm).length=10*1:=by decide +kernel
 show (inner0.map nm).take (10*1)=inner0.map nm
 rw [← this];exact List.take_length
set_option maxRecDepth 10000 in
theorem inner_any (v:List UInt8) (w:World):(Calls Tryz.prog 376 #[.string ⟨v.toArray⟩] w fun e w'=>e=.returned (.bool (inn v))∧Keeps (fun _=>False) w w'):=by
 have hb:=inl_bd v;have hI:=fun w=>inline_any v w
 have HD:Hid (inn v=(decide (0<inl v) || decide (v ∈ inner0))):=rfl
 have hm:=idx_mem v inner0;have hC:=fun w=>contains_any (some ⟨w.heap.size,0,none⟩) 10 10 inner0 v _ (own_inner w) (by decide +kernel) (by decide)
 generalize inl v=r at hb hI HD;generalize inn v=q at HD ⊢;have HI:=h_ hI;have HC:=h_ hC;have HM:=h_ hm;clear hI hC hm;by_cases hr:0<r
 · go_enter Tryz.func376,Tryz.ntmps376
   go_wp2_with fail;refine (HI.out _).mono ?_;rintro e w1 ⟨rfl,rfl⟩;go_wp2_with fail;go_ret
   refine ⟨?_,Keeps.refl _ _⟩;rw [HD.out];simp [hr]
 · have hr':decide (0<r)=false:=by simpa using hr
   go_enter Tryz.func376,Tryz.ntmps376
   go_wp2_with fail;refine (HI.out _).mono ?_;rintro e w1 ⟨rfl,rfl⟩;go_wp2_with fail;refine (HC.out _).mono ?_;rintro e w1 ⟨rfl,rfl⟩;go_wp2_with fail;go_ret
   refine ⟨?_,Keeps.alloc _ _ _⟩;rw [HD.out,hr'];simp [HM.out]
end Go.Proofs.Cod
namespace Go.Proofs.Shed
open Go.Proofs.Cod
namespace Vm
def primFold (list:Int):List (List UInt8)→Sp→Int→Option (Sp × Int)
 | [],x,last=>some (x,last)
 | nm :: r,x,last=>if (x.create list nm 0 (num nm)).2.2=0 then primFold list r (x.create list nm 0 (num nm)).1 (if nm=[40,99,97,117,103,104,116,41] then (x.create list nm 0 (num nm)).2.1.xt else last) else none
def prims (x:Sp):Option (Sp × Int × Int × Int) :=
 if (x.comma 10).2≠0 then none else
 if (x.comma 10).1.list.2.2≠0 then none else
 match primFold (x.comma 10).1.list.2.1 names (x.comma 10).1.list.1 0 with
 | none=>none
 | some (y,last) =>
  let l:=(x.comma 10).1.list.2.1
  let c:=y.create l [98,97,115,101] 0 1003
  if c.2.2≠0 then none else
  if (c.1.comma x.here).2≠0 then none else
  if ((c.1.comma x.here).1.comma last).2≠0 then none else
  some (((c.1.comma x.here).1.comma last).1,x.here,l,(c.1.comma x.here).1.here)
end Vm
end Go.Proofs.Shed
namespace Go.Proofs.Shed
open Go Go.RowKit Go.Proofs.K
def midB (L:List UInt8) (k p:Nat):UInt8:=if p<k∨L.length≤p+k then L.getD (L.length-1-p) 0 else L.getD p 0
theorem midB_step (L:List UInt8) (k p:Nat) (hk:2*(k+1)≤L.length) (h1:p≠k) (h2:p+k+1≠L.length):midB L (k+1) p=midB L k p:=by
 unfold midB;by_cases h:p<k∨L.length≤p+k
 · rw [if_pos (by omega),if_pos h]
 · rw [if_neg (by omega),if_neg h]
theorem midB_at (L:List UInt8) (k p:Nat) (hk:2*(k+1)≤L.length) (h:p=k∨p+k+1=L.length):midB L (k+1) p=L.getD (L.length-1-p) 0∧midB L k p=L.getD p 0:=by
 unfold midB;rw [if_pos (by omega),if_neg (by omega)]
 exact ⟨rfl,rfl⟩
theorem midB_all (L:List UInt8) (p:Nat) (hp:p<L.length):midB L (L.length / 2) p=L.reverse[p]'(by simpa using hp):=by
 rw [List.getElem_reverse];unfold midB;split
 · rw [List.getD_eq_getElem?_getD,List.getElem?_eq_getElem (by omega)];rfl
 · have e:p=L.length-1-p:=by omega
   rw [List.getD_eq_getElem?_getD,List.getElem?_eq_getElem hp,Option.getD_some];congr 1
def RevBPost (g n:Nat) (t:TypeId) (s:Nat) (L:List UInt8) (w:World) (e:Ending) (w':World):Prop :=
 e=.returned (.tuple #[])∧(∃ cur,w'.heap[g]?=some (.cells cur t (0,0))∧cur.size=s∧∀ p,p<n→cur[p]?=some (.int .u8 ((midB L (n / 2) p).toNat:Int)))∧Keeps (fun k=>k=g) w w'
theorem revB_some (w:World) (g n c s:Nat) (t:TypeId) (cur:Array Value) (L:List UInt8) (hg:w.heap[g]?=some (.cells cur t (0,0))) (hc:cur.size=s) (hn:n≤s) (hL:L.length=n) (hb:n≤10000000) (h1:1≤n)
 (hcur:∀ i,(hi:i<L.length)→cur[i]?=some (.int .u8 (L[i].toNat:Int))) :
 Calls Tryz.prog 157 #[.slice (some ⟨g,0,none⟩) n c] w (RevBPost g n t s L w):=by
 have Hcur:=h_ hcur;have HL:=h_ hL;have Hg:=h_ hg;have Hc:=h_ hc;clear hcur hL hg hc
 go_enter Tryz.func157,Tryz.ntmps157
 go_wp2_with fail
 go_loopw [2,3] (fun i j wr=>∃ (k l:Nat) (cur:Array Value),2*k≤n∧k+l+1=n∧i=.int .i64 k∧j=.int .i64 l∧wr.heap[g]?=some (.cells cur t (0,0))∧cur.size=s ∧
  (∀ p,p<n→cur[p]?=some (.int .u8 ((midB L k p).toNat:Int)))∧Keeps (fun k=>k=g) w wr) (fun i _ _=>n-(intOf i).toNat)
 case atStart =>
  refine ⟨0,n-1,cur,by omega,by omega,rfl,by go_num,Hg.out,Hc.out,fun p hp=>?_,Keeps.refl _ _⟩
  have hpL:p<L.length:=by rw [HL.out];exact hp
  rw [Hcur.out p hpL];unfold midB;rw [if_neg (by omega),List.getD_eq_getElem?_getD,List.getElem?_eq_getElem hpL]
  rfl
 case round =>
  obtain ⟨k,l,cur,hk,hkl,rfl,rfl,hr,hs,hf,hw⟩:=hrel;have HW:=h_ hw;have HR:=h_ hr;have HS:=h_ hs;have HF:=h_ hf;by_cases hlt:k<l
  · have F:=cell_of hr (hf k (by omega))
    have G:=cell_of hr (hf l (by omega))
    obtain ⟨mk1,mk2⟩:=midB_at L k k (by rw [HL.out];omega) (.inl rfl)
    obtain ⟨ml1,ml2⟩:=midB_at L k l (by rw [HL.out];omega) (.inr (by rw [HL.out];omega))
    rw [show L.length-1-k=l by rw [HL.out];omega] at mk1
    rw [show L.length-1-l=k by rw [HL.out];omega] at ml1
    rw [mk2] at F;rw [ml2] at G;have hstep:=fun p h1 h2=>midB_step L k p (by rw [HL.out];omega) h1 h2
    generalize L.getD k 0=x at F mk1 ml1 mk2;generalize L.getD l 0=y at G mk1 ml1 ml2;have fr:=fun i=>free_of (i:=i) hr
    have M:Hid (∃ cur',((wr.setCell ⟨g,k,none⟩ (.int .u8 (y.toNat:Int))).setCell ⟨g,l,none⟩ (.int .u8 (x.toNat:Int))).drew.heap[g]?=some (.cells cur' t (0,0))∧cur'.size=s∧(∀ p,p<n→cur'[p]?=some (.int .u8 ((midB L (k+1) p).toNat:Int)))):=by
     refine ⟨_,hset_same (hset_same hr _) _,by rw [Array.size_setIfInBounds,Array.size_setIfInBounds];exact hs,fun p hp=>?_⟩
     rw [Array.getElem?_setIfInBounds,Array.getElem?_setIfInBounds,Array.size_setIfInBounds];by_cases e1:l=p
     · rw [if_pos e1,if_pos (by omega),← e1,ml1]
     · rw [if_neg e1]
       by_cases e2:k=p
       · rw [if_pos e2,if_pos (by omega),← e2,mk1]
       · rw [if_neg e2,hf p hp,hstep p (fun e=>e2 e.symm) (by rw [HL.out];omega)]
    have KM:Hid (Keeps (fun k=>k=g) w ((wr.setCell ⟨g,k,none⟩ (.int .u8 (y.toNat:Int))).setCell ⟨g,l,none⟩ (.int .u8 (x.toNat:Int))).drew) :=
     (hw.trans ((Keeps.setCell (S:=fun k=>k=g) wr ⟨g,k,none⟩ (.int .u8 (y.toNat:Int)) (fun _=>rfl)).trans (Keeps.setCell (S:=fun k=>k=g) _ ⟨g,l,none⟩ (.int .u8 (x.toNat:Int)) (fun _=>rfl)))).trans (Keeps.drew _ _)
    clear mk1 mk2 ml1 ml2 hstep hr hs hf hw HR HS HF;have hb1:(k:Int)<n:=by omega
    have hb2:(l:Int)<n:=by omega
    have hb3:(0:Int)≤k:=by omega
    have hb4:(0:Int)≤l:=by omega
    go_wp2_with fail
    go_region
    go_wp2_with fail
    go_roundw
    case rel =>
     obtain ⟨cur',q1,q2,q3⟩:=M.out;exact ⟨k+1,l-1,cur',by omega,by omega,by go_num,by go_num,q1,q2,q3,KM.out⟩
    case measure=>simp [intOf];omega
  · have hke:k=n / 2:=by omega
    have hge:(l:Int)≤k:=by omega
    go_wp2_with fail;go_end0
    exact ⟨rfl,⟨cur,HR.out,HS.out,by rw [← hke];exact HF.out⟩,HW.out⟩
end Go.Proofs.Shed
