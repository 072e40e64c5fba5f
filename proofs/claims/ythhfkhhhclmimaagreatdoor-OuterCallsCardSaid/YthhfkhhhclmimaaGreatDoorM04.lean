/- Of CallsG: WRm, WRsp, WRfE. No condition. -/
import Derived.Test.YthhfkhhhclmimaaGreatDoorM03
set_option linter.unusedVariables false
set_option linter.unusedSimpArgs false
set_option maxRecDepth 10000
set_option maxHeartbeats 4000000
namespace Go.Proofs.Shed
open Go Go.RowKit Go.Proofs.K
structure RRm (w:World) (b bb:Nat) (m:Mem):Prop where
 head:w.heap[b]?=some (.cells #[.slice (some ⟨bb,0,none⟩) m.size m.size] 303 (0,0))
 rest:w.heap[bb]?=some (.cells m.vals 5 (0,0))
 ne:b≠bb
 le:m.size≤4194304
theorem RRm.cell {w:World} {b bb:Nat} {m:Mem} (h:RRm w b bb m):w.cell? ⟨b,0,none⟩=some (.slice (some ⟨bb,0,none⟩) m.size m.size):=cell_of h.head rfl
theorem RRm.byte {w:World} {b bb:Nat} {m:Mem} (h:RRm w b bb m) {i:Nat} (hi:i<m.size):w.cell? ⟨bb,i,none⟩=some (.int .u8 (m.byte i)):=cell_of h.rest (m.vals_get i hi)
theorem RRm.keeps {w w':World} {b bb:Nat} {m:Mem} (h:RRm w b bb m) {S:Nat→Prop} (k:Keeps S w w') (h1:¬ S b) (h2:¬ S bb):RRm w' b bb m:=⟨k.heap h.head h1,k.heap h.rest h2,h.ne,h.le⟩
theorem RRm.put1 {w:World} {b bb:Nat} {m:Mem} (h:RRm w b bb m) (i v:Nat) (hv:v<256):RRm (w.setCell ⟨bb,i,none⟩ (.int .u8 v)) b bb (m.put i 1 v) :=
 ⟨(Below.heap_setCell _ _ _ _ h.ne).trans h.head,by rw [← Mem.vals_set m i v hv];exact hset_same h.rest _,h.ne,h.le⟩
theorem RRm.lt {w:World} {b bb:Nat} {m:Mem} (h:RRm w b bb m):b<w.heap.size∧bb<w.heap.size:=⟨lt_of_heap h.head,lt_of_heap h.rest⟩
theorem rm_has (w:World) (b bb:Nat) (m:Mem) (a n:Int) (h:RRm w b bb m) :
 Calls Tryz.prog 370 #[.pointer (some ⟨b,0,none⟩),.int .i64 a,.int .i64 n] w fun e w'=>e=.returned (.bool (m.has a n))∧w=w':=by
 have h0:=h.cell;have hl:=h.le;have HD:Hid (m.has a n=(decide (0≤n) && decide (0≤a) && decide (n≤m.size) && decide (a≤m.size-n))):=rfl;generalize m.has a n=r at HD ⊢;generalize m.size=sz at *;clear h;by_cases h2:0≤a
 · by_cases h1:0≤n
   · by_cases h3:a≤sz
     · by_cases h4:n≤sz
       · have hw:wrap64 (a+n)=a+n:=IntWalk.wrap64_in _ (by omega)
         have hr:r=decide (a+n≤sz):=by rw [HD.out];simp [h1,h2,h4];omega
         subst hr;clear HD
         go_enter Tryz.func370,Tryz.ntmps370
         go_wp2_with fail;go_ret
         exact ⟨rfl,rfl⟩
       · have hr:r=false:=by rw [HD.out];simp;omega
         subst hr;have h4':(sz:Int)<n:=by omega
         clear HD
         go_enter Tryz.func370,Tryz.ntmps370
         go_wp2_with fail;go_ret
         exact ⟨rfl,rfl⟩
     · have hr:r=false:=by rw [HD.out];simp;omega
       subst hr;have h4':(sz:Int)<a:=by omega
       clear HD
       go_enter Tryz.func370,Tryz.ntmps370
       go_wp2_with fail;go_ret
       exact ⟨rfl,rfl⟩
   · have hr:r=false:=by rw [HD.out];simp;omega
     subst hr;have h4':n<0:=by omega
     clear HD
     go_enter Tryz.func370,Tryz.ntmps370
     go_wp2_with fail;go_ret
     exact ⟨rfl,rfl⟩
 · have hr:r=false:=by rw [HD.out];simp;omega
   subst hr;have h4':a<0:=by omega
   clear HD
   go_enter Tryz.func370,Tryz.ntmps370
   go_wp2_with fail;go_ret
   exact ⟨rfl,rfl⟩
theorem rm_code (w:World) (b bb:Nat) (m:Mem) (a:Int) (h:RRm w b bb m) :
 Calls Tryz.prog 216 #[.pointer (some ⟨b,0,none⟩),.int .i64 a] w fun e w'=>e=.returned (.int .i64 (m.at_ a))∧w=w':=by
 have HD:Hid (m.at_ a=if m.has a 8 then (if a % 8=0 then 0 else -23) else -9):=rfl
 have HC:=h_ (rm_has w b bb m a 8 h);have HI:=m.has_iff a 8;generalize m.at_ a=r at HD ⊢;generalize m.has a 8=q at HD HC HI
 cases q with
 | false =>
  have hr:r = -9:=HD.out;subst hr;clear HD h HI
  go_enter Tryz.func216,Tryz.ntmps216
  go_wp2_with fail;refine HC.out.mono ?_;rintro e w1 ⟨rfl,rfl⟩;go_wp2_with fail;go_ret
  exact ⟨rfl,rfl⟩
 | true =>
  have h0:0≤a:=(HI.1 rfl).2.1;have ht:a.tmod 8=a % 8:=Int.tmod_eq_emod_of_nonneg h0;by_cases h8:a % 8=0
  · have hr:r=0:=by rw [HD.out,if_pos h8];rfl
    subst hr;have d:(a % 8 != 0)=false:=by simp [h8]
    clear HD h HI h8
    go_enter Tryz.func216,Tryz.ntmps216
    go_wp2_with fail;refine HC.out.mono ?_;rintro e w1 ⟨rfl,rfl⟩;go_wp2_with fail;go_ret
    exact ⟨rfl,rfl⟩
  · have hr:r = -23:=by rw [HD.out,if_neg h8];rfl
    subst hr;have d:(a % 8 != 0)=true:=by simp [h8]
    clear HD h HI h8
    go_enter Tryz.func216,Tryz.ntmps216
    go_wp2_with fail;refine HC.out.mono ?_;rintro e w1 ⟨rfl,rfl⟩;go_wp2_with fail;go_ret
    exact ⟨rfl,rfl⟩
theorem get_low (m:Mem) (a n:Nat):m.get a (n+1)=m.byte a+256*m.get (a+1) n:=by
 unfold Mem.byte Mem.get;rw [show 8*(a+1)=8*a+8 by omega,Nat.shiftRight_add,show 8*(n+1)=8*1+8*n by omega,Nat.pow_add]
 generalize m.bits >>> (8*a)=x;rw [Nat.shiftRight_eq_div_pow,show (2 ^ (8*1):Nat)=256 by decide,Nat.mod_mul]
theorem rm_cell (w:World) (b bb:Nat) (m:Mem) (a:Int) (h:RRm w b bb m) :
 Calls Tryz.prog 138 #[.pointer (some ⟨b,0,none⟩),.int .i64 a] w fun e w'=>e=.returned (.tuple #[.int .i64 (m.cell a).1,.int .i64 (m.cell a).2])∧w=w':=by
 have HD:Hid (m.cell a=if m.at_ a=0 then (s64 (m.get a.toNat 8),0) else (0,m.at_ a)):=rfl
 have HC:=h_ (rm_code w b bb m a h);have HZ:=m.at_zero a;generalize m.cell a=r at HD ⊢;generalize m.at_ a=q at HD HC HZ;by_cases hq:q=0
 · obtain ⟨z1,z2,z3⟩:=HZ.1 hq
   obtain ⟨k0,rfl⟩:∃ k0:Nat,a=k0:=⟨a.toNat,by omega⟩
   have hr:r=(s64 (m.get k0 8),0):=by rw [HD.out,if_pos hq];rfl
   subst hq hr;have H:=h_ h;have h0:=h.cell;have hle:=h.le;have b1:(k0:Int)+8≤m.size:=by omega
   clear HD HZ h
   go_enter Tryz.func138,Tryz.ntmps138
   go_wp2_with fail;refine HC.out.mono ?_;rintro e w1 ⟨rfl,rfl⟩;go_wp2_with fail
   go_loopw [7,8] (fun nv iv wr=>∃ k:Nat,k≤8∧iv=.int .i64 ((k:Int)-1)∧nv=.int .u64 (m.get (k0+k) (8-k):Nat)∧wr=w) (fun _ iv _=>(intOf iv+1).toNat)
   case atStart=>exact ⟨8,Nat.le_refl _,rfl,by rw [Nat.sub_self,Mem.get_zero];rfl,rfl⟩
   case round =>
    obtain ⟨k,hk,rfl,rfl,rfl⟩:=hrel;by_cases hlt:0<k
    · obtain ⟨j,rfl⟩:∃ j,k=j+1:=⟨k-1,by omega⟩
      have c1:wr.cell? ⟨bb,k0+j,none⟩=some (.int .u8 (m.byte (k0+j))):=H.out.byte (by omega)
      have e1:(((j+1:Nat):Int)-1)=(j:Int):=by omega
      rw [e1];have hg:=get_low m (k0+j) (8-(j+1));rw [show 8-(j+1)+1=8-j by omega,show k0+j+1=k0+(j+1) by omega] at hg
      have hb:=m.byte_lt (k0+j);have hgl:=m.get_lt (k0+j) (8-j)
      have hgl2:m.get (k0+j) (8-j)<18446744073709551616:=Nat.lt_of_lt_of_le hgl (by
       calc 2 ^ (8*(8-j))≤2 ^ 64:=Nat.pow_le_pow_right (by omega) (by omega)
        _=18446744073709551616:=by decide)
      generalize m.get (k0+(j+1)) (8-(j+1))=g at hg ⊢;generalize m.byte (k0+j)=y at c1 hg hb;have HG:=h_ hg;have c3:(0:Int)≤(j:Int):=by omega
      have c4:(k0:Int)+j<m.size:=by omega
      have c5:(0:Int)≤(k0:Int)+j:=by omega
      have c6:wrap64 ((k0:Int)+j)=(k0:Int)+j:=IntWalk.wrap64_in _ (by omega)
      have c7:wrap64 ((j:Int)-1)=(j:Int)-1:=IntWalk.wrap64_in _ (by omega)
      have c8:((k0:Int)+j).toNat=k0+j:=by omega
      have u1:IntKind.u64.wrap (y:Int)=y:=by rw [IntKind.wrap_u64];omega
      have u2:IntKind.u64.wrap ((g:Int)*256)=(g:Int)*256:=by rw [IntKind.wrap_u64];omega
      have u3:IntKind.u64.wrap ((g:Int)*256+y)=(g:Int)*256+y:=by rw [IntKind.wrap_u64];omega
      have HU:=h_ (And.intro u1 (And.intro u2 u3));clear hg hgl hgl2 hlt;go_wp2_with fail
      go_roundw
      case rel=>exact ⟨j,by omega,rfl,by rw [HG.out];congr 1;push_cast;omega,trivial⟩
      case measure=>simp [intOf]
    · have hk0:k=0:=by omega
      subst hk0;have e1:(((0:Nat):Int)-1) = -1:=rfl;have hl:=m.get_lt k0 8;have hs:=s64_wrap (m.get k0 8) (by simpa using hl)
      rw [e1];clear hlt hl;go_wp2_with fail;go_ret2
      refine ⟨?_,rfl⟩
      show Ending.returned (.tuple #[.int .i64 (wrap64 ((m.get (k0+0) (8-0):Nat):Int)),.int .i64 0])=_
      rw [Nat.add_zero,Nat.sub_zero,hs]
 · have hr:r=(0,q):=by rw [HD.out,if_neg hq]
   subst hr;have d1:(q == 0)=false:=by simp [hq]
   clear HD HZ h hq
   go_enter Tryz.func138,Tryz.ntmps138
   go_wp2_with fail;refine HC.out.mono ?_;rintro e w1 ⟨rfl,rfl⟩;go_wp2_with fail;go_ret2
   exact ⟨rfl,rfl⟩
theorem rm_setCell (w:World) (b bb:Nat) (m:Mem) (a n:Int) (h:RRm w b bb m) :
 Calls Tryz.prog 211 #[.pointer (some ⟨b,0,none⟩),.int .i64 a,.int .i64 n] w fun e w'=>e=.returned (.int .i64 (m.setCell a n).2)∧RRm w' b bb (m.setCell a n).1∧Keeps (fun k=>k=bb) w w':=by
 have HD:Hid (m.setCell a n=if m.at_ a=0 then (m.put a.toNat 8 (u64 n),0) else (m,m.at_ a)):=rfl
 have HC:=h_ (rm_code w b bb m a h);have HZ:=m.at_zero a;have H:=h_ h;generalize m.setCell a n=r at HD ⊢;generalize m.at_ a=q at HD HC HZ;by_cases hq:q=0
 · obtain ⟨z1,z2,z3⟩:=HZ.1 hq
   obtain ⟨k0,rfl⟩:∃ k0:Nat,a=k0:=⟨a.toNat,by omega⟩
   have hr:r=(m.put k0 8 (u64 n),0):=by rw [HD.out,if_pos hq];rfl
   subst hq hr;have hle:=h.le;have b1:(k0:Int)+8≤m.size:=by omega
   have hu:IntKind.u64.wrap n=(u64 n:Int):=by rw [IntKind.wrap_u64];unfold u64;omega
   have hul:=u64_lt n;generalize u64 n=u at hu hul ⊢;clear HD HZ h
   go_enter Tryz.func211,Tryz.ntmps211
   go_wp2_with fail;refine HC.out.mono ?_;rintro e w1 ⟨rfl,rfl⟩;go_wp2_with fail
   go_loopw [8,9] (fun uv iv wr=>∃ k:Nat,k≤8∧iv=.int .i64 k∧uv=.int .u64 ((u >>> (8*k):Nat):Int)∧RRm wr b bb (m.put k0 k u)∧Keeps (fun k=>k=bb) w wr) (fun _ i _=>8-(intOf i).toNat)
   case atStart=>exact ⟨0,Nat.zero_le _,rfl,rfl,by rw [Mem.put_zero];exact H.out,Keeps.refl _ _⟩
   case round =>
    obtain ⟨k,hk,rfl,rfl,hm,hw⟩:=hrel;by_cases hlt:k<8
    · have c0:wr.cell? ⟨b,0,none⟩=some (.slice (some ⟨bb,0,none⟩) m.size m.size):=hm.cell
      have c1:wr.cell? ⟨bb,k0+k,none⟩=some (.int .u8 ((m.put k0 k u).byte (k0+k))):=hm.byte (by rw [Mem.put_size];omega)
      have f1:wr.frozen? ⟨bb,k0+k,none⟩=false:=free_of hm.rest;have c2:(k:Int)<8:=by omega
      have c3:(0:Int)≤k:=by omega
      have c4:(k0:Int)+k<m.size:=by omega
      have c5:(0:Int)≤(k0:Int)+k:=by omega
      have c6:wrap64 ((k0:Int)+k)=(k0:Int)+k:=IntWalk.wrap64_in _ (by omega)
      have c7:wrap64 ((k:Int)+1)=(k:Int)+1:=IntWalk.wrap64_in _ (by omega)
      have c8:((k0:Int)+k).toNat=k0+k:=by omega
      have hw2:=hm.put1 (k0+k) ((u >>> (8*k)) % 256) (Nat.mod_lt _ (by decide))
      rw [show (u >>> (8*k)) % 256=(u >>> (8*k)) % 2 ^ (8*1) from rfl,Mem.put_mod,← Mem.put_succ] at hw2
      have hvl:u >>> (8*k)<18446744073709551616:=Nat.lt_of_le_of_lt (Nat.shiftRight_le _ _) hul;have hv2:u >>> (8*(k+1))=(u >>> (8*k)) / 256:=by rw [show 8*(k+1)=8*k+8 by omega,Nat.shiftRight_add,Nat.shiftRight_eq_div_pow (u >>> (8*k))]
      have HV2:=h_ hv2;generalize u >>> (8*k)=v at hw2 hvl HV2 ⊢;have HW:=h_ hw2;have HK:=h_ hw;rw [show ((v % 256:Nat):Int)=(v:Int) % 256 by omega] at hw2
      replace HW:=h_ hw2;replace HK:=h_ (hw.trans (Keeps.setCell (S:=fun k=>k=bb) wr ⟨bb,k0+k,none⟩ (.int .u8 ((v:Int) % 256)) (fun _=>rfl)))
      clear hw2 hw hm hv2 hlt;go_wp2_with fail
      go_roundw
      case rel=>exact ⟨k+1,by omega,by go_num,by rw [HV2.out];congr 1,HW.out,HK.out⟩
      case measure=>simp [intOf];omega
    · have hk8:k=8:=by omega
      subst hk8;have HM:=h_ hm;have HK:=h_ hw;clear hm hw hlt;go_wp2_with fail;go_ret
      exact ⟨rfl,HM.out,HK.out⟩
 · have hr:r=(m,q):=by rw [HD.out,if_neg hq]
   subst hr;have d1:(q == 0)=false:=by simp [hq]
   clear HD HZ h hq
   go_enter Tryz.func211,Tryz.ntmps211
   go_wp2_with fail;refine HC.out.mono ?_;rintro e w1 ⟨rfl,rfl⟩;go_wp2_with fail;go_ret
   exact ⟨rfl,H.out,Keeps.refl _ _⟩
theorem leN_shr (l:List UInt8) (i:Nat) (h:i<l.length) (m:Mem) (k:Nat):(m.put k i (leN l)).put (k+i) 1 l[i].toNat=m.put k (i+1) (leN l):=by
 rw [Mem.put_succ m k i (leN l),← Mem.put_mod _ (k+i) 1 (leN l >>> (8*i))];have:=leN_shift l i h;rw [show (leN l >>> (8*i)) % 2 ^ (8*1)=l[i].toNat from this]
theorem rm_setText (w:World) (b bb:Nat) (m:Mem) (a:Int) (s:List UInt8) (h:RRm w b bb m) (hs:s.length≤4194304) :
 Calls Tryz.prog 418 #[.pointer (some ⟨b,0,none⟩),.int .i64 a,.string ⟨s.toArray⟩] w fun e w'=>e=.returned (.int .i64 (m.setText a s).2)∧RRm w' b bb (m.setText a s).1∧Keeps (fun k=>k=bb) w w':=by
 have HD:Hid (m.setText a s=if m.has a s.length then (m.put a.toNat s.length (leN s),0) else (m,-9)):=rfl
 have HC:=h_ (rm_has w b bb m a s.length h);have HI:=m.has_iff a s.length;have H:=h_ h;have hle:=h.le;generalize m.setText a s=r at HD ⊢;generalize m.has a s.length=q at HD HC HI
 cases q with
 | false =>
  have hr:r=(m,-9):=HD.out;subst hr;clear HD HI h
  go_enter Tryz.func418,Tryz.ntmps418
  go_wp2_with fail;refine HC.out.mono ?_;rintro e w1 ⟨rfl,rfl⟩;go_wp2_with fail;go_ret
  exact ⟨rfl,H.out,Keeps.refl _ _⟩
 | true =>
  have ha:=HI.1 rfl;obtain ⟨k0,rfl⟩:∃ k:Nat,a=k:=⟨a.toNat,by omega⟩
  have hr:r=(m.put k0 s.length (leN s),0):=HD.out;subst hr;clear HD HI h
  go_enter Tryz.func418,Tryz.ntmps418
  go_wp2_with fail;refine HC.out.mono ?_;rintro e w1 ⟨rfl,rfl⟩;go_wp2_with fail
  go_loopw [8] (fun iv wr=>∃ k:Nat,k≤s.length∧iv=.int .i64 k∧RRm wr b bb (m.put k0 k (leN s))∧Keeps (fun k=>k=bb) w wr) (fun i _=>s.length-(intOf i).toNat)
  case atStart=>exact ⟨0,Nat.zero_le _,rfl,by rw [Mem.put_zero];exact H.out,Keeps.refl _ _⟩
  case round =>
   obtain ⟨k,hk,rfl,hm,hw⟩:=hrel;by_cases hlt:k<s.length
   · have c0:wr.cell? ⟨b,0,none⟩=some (.slice (some ⟨bb,0,none⟩) m.size m.size):=hm.cell
     have c1:wr.cell? ⟨bb,k0+k,none⟩=some (.int .u8 ((m.put k0 k (leN s)).byte (k0+k))):=hm.byte (by rw [Mem.put_size];omega)
     have f1:wr.frozen? ⟨bb,k0+k,none⟩=false:=free_of hm.rest;have c2:(k:Int)<s.length:=by omega
     have c3:(0:Int)≤k:=by omega
     have c4:(k0:Int)+k<m.size:=by omega
     have c5:(0:Int)≤(k0:Int)+k:=by omega
     have c6:IntKind.i64.wrap ((k0:Int)+k)=(k0:Int)+k:=IntWalk.i64_in _ (by omega)
     have c7:wrap64 ((k:Int)+1)=(k:Int)+1:=IntWalk.wrap64_in _ (by omega)
     have c8:((k0:Int)+k).toNat=k0+k:=by omega
     have hw2:=hm.put1 (k0+k) s[k].toNat (s[k].toNat_lt);rw [leN_shr s k hlt] at hw2;have HW:=h_ hw2;have HK:=h_ (hw.trans (Keeps.setCell (S:=fun k=>k=bb) wr ⟨bb,k0+k,none⟩ (.int .u8 (s[k].toNat:Int)) (fun _=>rfl)))
     clear hw2 hw hm;go_wp2_with fail
     go_region
     go_wp2_with fail
     go_roundw
     case rel=>exact ⟨k+1,by omega,by go_num,⟨HW.out.head,HW.out.rest,HW.out.ne,HW.out.le⟩,HK.out.trans (Keeps.drew _ _)⟩
     case measure=>simp [intOf];omega
   · have hkl:k=s.length:=by omega
     subst hkl;have HM:=h_ hm;have HK:=h_ hw;have hn:¬ ((s.length:Int)<s.length):=by omega
     clear hm hw hlt;go_wp2_with fail;go_ret
     exact ⟨rfl,HM.out,HK.out⟩
theorem rm_new (w:World) (k:Nat) (hk:k≤1048576):Calls Tryz.prog 132 #[.int .i64 (k:Int)] w fun e w'=>∃ b bb,e=.returned (.pointer (some ⟨b,0,none⟩))∧RRm w' b bb (Mem.zero k)∧w.heap.size≤b∧w.heap.size≤bb∧Keeps (fun _=>False) w w':=by
 obtain ⟨i0,hi,hz0,hz1,hz2⟩:=info_parts infoU8;have hm:=fun w=>run_make (P:=Tryz.prog) w 143 5 i0 (.int .u8 0) Tryz.underlying143 hi hz0 .i64 .i64 k k (by omega) (by omega) (by rw [hz2];omega) (by omega)
 rw [hz1] at hm;simp only [Int.toNat_natCast,Value.cells,vals_zero] at hm
 generalize hv:(Mem.zero k).vals=V at hm;have HV:=h_ hv;clear hv
 go_enter Tryz.func132,Tryz.ntmps132
 go_wp2_with fail;go_ret
 refine ⟨w.heap.size+1,w.heap.size,by simp,⟨?_,?_,by omega,by show k≤_;omega⟩,by omega,by omega,(Keeps.alloc _ _ _).trans (Keeps.alloc _ _ _)⟩
 · have:=halloc_at (w.alloc (.cells V 5)) (.cells #[.slice (some ⟨w.heap.size,0,none⟩) k k] 303)
   rw [World.size_alloc] at this;exact this
 · rw [HV.out]
   exact (halloc_old _ _ (by simp)).trans (halloc_at w _)
structure RRs (w:World) (s b bb:Nat) (x:Sp):Prop where
 head:w.heap[s]?=some (.cells #[.pointer (some ⟨b,0,none⟩),.int .i64 x.lo,.int .i64 x.to,.int .i64 x.here] 158 (0,0))
 mem:RRm w b bb x.mem
 ne1:s≠b
 ne2:s≠bb
 ok:x.Ok
namespace RRs
variable {w w':World} {s b bb:Nat} {x:Sp}
theorem keeps (h:RRs w s b bb x) {S:Nat→Prop} (k:Keeps S w w') (h0:¬ S s) (h1:¬ S b) (h2:¬ S bb):RRs w' s b bb x :=
 ⟨k.heap h.head h0,h.mem.keeps k h1 h2,h.ne1,h.ne2,h.ok⟩
theorem c0 (h:RRs w s b bb x):w.cell? ⟨s,0,none⟩=some (.pointer (some ⟨b,0,none⟩)):=cell_of h.head rfl
theorem c2 (h:RRs w s b bb x):w.cell? ⟨s,2,none⟩=some (.int .i64 x.to):=cell_of h.head rfl
theorem c3 (h:RRs w s b bb x):w.cell? ⟨s,3,none⟩=some (.int .i64 x.here):=cell_of h.head rfl
theorem f (h:RRs w s b bb x) (i:Nat):w.frozen? ⟨s,i,none⟩=false:=free_of h.head
theorem bd (h:RRs w s b bb x):0≤x.lo∧x.lo≤x.here∧x.here≤x.to∧x.to≤4194304:=by
 obtain ⟨h1,h2,h3,h4⟩:=h.ok;have:=h.mem.le;exact ⟨h1,h2,h3,by omega⟩
theorem withMem (h:RRs w s b bb x) {m:Mem} (hm:RRm w' b bb m) (hs:m.size=x.mem.size) (k:Keeps (fun j=>j=bb) w w'):RRs w' s b bb { x with mem:=m } :=
 ⟨k.heap h.head h.ne2,hm,h.ne1,h.ne2,h.ok.1,h.ok.2.1,h.ok.2.2.1,by show x.to≤m.size;rw [hs];exact h.ok.2.2.2⟩
theorem withHere (h:RRs w s b bb x) (n:Int) (h1:x.lo≤n) (h2:n≤x.to):RRs (w.setCell ⟨s,3,none⟩ (.int .i64 n)) s b bb { x with here:=n } :=
 ⟨hset_same h.head _,h.mem.keeps (Keeps.setCell (S:=fun j=>j=s) _ _ _ (fun _=>rfl)) (fun e=>h.ne1 e.symm) (fun e=>h.ne2 e.symm),h.ne1,h.ne2,h.ok.1,h1,h2,h.ok.2.2.2⟩
end RRs
theorem rs_room (w:World) (s b bb:Nat) (x:Sp) (n:Int) (h:RRs w s b bb x):Calls Tryz.prog 366 #[.pointer (some ⟨s,0,none⟩),.int .i64 n] w fun e w'=>e=.returned (.bool (decide (n≤x.to-x.here)))∧Keeps (fun _=>False) w w':=by
 have c2:=h.c2;have c3:=h.c3;obtain ⟨b1,b2,b3,b4⟩:=h.bd;have hw:IntKind.i64.wrap (x.to-x.here)=x.to-x.here:=IntWalk.i64_in _ (by omega)
 have hw2:wrap64 (x.to-x.here)=x.to-x.here:=IntWalk.wrap64_in _ (by omega)
 clear h
 go_enter Tryz.func366,Tryz.ntmps366
 go_wp2_with fail
 go_region
 go_wp2_with fail;go_ret
 exact ⟨rfl,Keeps.drew _ _⟩
theorem Sp.comma_succ {x:Sp} {n:Int} (h:(x.comma n).2=0):8≤x.to-x.here∧(x.mem.setCell x.here n).2=0∧(x.comma n).1={ x with mem:=(x.mem.setCell x.here n).1,here:=x.here+8 }:=by
 unfold Sp.comma Sp.put at h ⊢;split at h
 · rename_i h1
   rw [if_pos h1];split at h
   · rename_i h2;exact absurd h h2
   · rename_i h2
     rw [if_neg h2];unfold Sp.allot at h ⊢;split at h
     · cases h
     · rename_i h3
       rw [if_neg h3];exact ⟨h1,by simpa using h2,rfl⟩
 · unfold Sp.allot at h
   split at h
   · cases h
   · rename_i h1 h3;exfalso;omega
theorem Sp.chars_succ {x:Sp} {t:List UInt8} (h:(x.chars t).2=0):(t.length:Int)≤x.to-x.here∧(x.mem.setText x.here t).2=0∧(x.chars t).1={ x with mem:=(x.mem.setText x.here t).1,here:=x.here+t.length }:=by
 unfold Sp.chars Sp.put at h ⊢;split at h
 · rename_i h1
   rw [if_pos h1];split at h
   · rename_i h2;exact absurd h h2
   · rename_i h2
     rw [if_neg h2];unfold Sp.allot at h ⊢;split at h
     · cases h
     · rename_i h3
       rw [if_neg h3];exact ⟨h1,by simpa using h2,rfl⟩
 · unfold Sp.allot at h
   split at h
   · cases h
   · rename_i h1 h3;exfalso;omega
def RsOk (s b bb:Nat) (x:Sp) (w:World) (e:Ending) (w':World):Prop:=e=.returned (.int .i64 0)∧RRs w' s b bb x∧Keeps (fun k=>k=s∨k=bb) w w'
theorem rs_comma (w:World) (s b bb:Nat) (x:Sp) (n:Int) (hok:(x.comma n).2=0) (h:RRs w s b bb x):Calls Tryz.prog 213 #[.pointer (some ⟨s,0,none⟩),.int .i64 n] w (RsOk s b bb (x.comma n).1 w):=by
 obtain ⟨h1,h2,h3⟩:=Sp.comma_succ hok;rw [h3];have HR:=h_ (rs_room w s b bb x 8 h);rw [decide_eq_true h1] at HR;have HS:=h_ fun V (hV:RRs V s b bb x)=>rm_setCell V b bb x.mem x.here n hV.mem
 rw [h2] at HS;have HZ:=h_ (Mem.setCell_size x.mem x.here n);generalize (x.mem.setCell x.here n).1=m at HS HZ ⊢;have H0:=h_ h;obtain ⟨b1,b2,b3,b4⟩:=h.bd;have HB:=h_ (And.intro b2 h1);have hw:wrap64 (x.here+8)=x.here+8:=IntWalk.wrap64_in _ (by omega)
 clear h hok h1 h2 h3 b1 b2 b3 b4
 go_enter Tryz.func213,Tryz.ntmps213
 go_wp2_with fail;refine HR.out.mono ?_;rintro e w1 ⟨rfl,k1⟩;have H1:=h_ (H0.out.keeps k1 id id id);have K1:=h_ k1;have c0:=H1.out.c0;have c3:=H1.out.c3;clear k1;go_wp2_with fail
 go_still_tail 9,(by kernel_rfl)
 change wpList _ _ _ _ _ w1.drew
 have H2:=h_ (H1.out.keeps (kd_ w1) id id id);have K2:=h_ (K1.out.trans (kd_ w1));generalize w1.drew=w2 at H2 K2 ⊢;clear c0 c3;go_wp2_with fail;refine (HS.out _ H2.out).mono ?_;rintro e w3 ⟨rfl,m3,k3⟩;have H3:=h_ (H2.out.withMem m3 HZ.out k3);have K3:=h_ ((K2.out.mono (T:=fun k=>k=s∨k=bb) (fun _ _ e=>e.elim)).trans (k3.mono (fun _ _ e=>.inr e)))
 have c3:w3.cell? ⟨s,3,none⟩=some (.int .i64 x.here):=H3.out.c3;have f3:=H3.out.f 3;clear m3 k3;have H4:=h_ (H3.out.withHere (x.here+8) (by show x.lo≤_;have:=HB.out;omega) (by show _≤x.to;have:=HB.out;omega))
 have K4:=h_ (K3.out.trans ((Keeps.setCell (S:=fun k=>k=s) w3 ⟨s,3,none⟩ (.int .i64 (x.here+8)) (fun _=>rfl)).mono (fun _ _ e=>.inl e)))
 go_wp2_with fail;go_ret
 exact ⟨rfl,H4.out,K4.out⟩
theorem rs_chars (w:World) (s b bb:Nat) (x:Sp) (t:List UInt8) (ht:t.length≤4194304) (hok:(x.chars t).2=0) (h:RRs w s b bb x):Calls Tryz.prog 369 #[.pointer (some ⟨s,0,none⟩),.string ⟨t.toArray⟩] w (RsOk s b bb (x.chars t).1 w):=by
 obtain ⟨h1,h2,h3⟩:=Sp.chars_succ hok;rw [h3];have HR:=h_ (rs_room w s b bb x t.length h);rw [decide_eq_true h1] at HR;have HS:=h_ fun V (hV:RRs V s b bb x)=>rm_setText V b bb x.mem x.here t hV.mem ht
 rw [h2] at HS;have HZ:=h_ (Mem.setText_size x.mem x.here t);generalize (x.mem.setText x.here t).1=m at HS HZ ⊢;have H0:=h_ h;obtain ⟨b1,b2,b3,b4⟩:=h.bd;have HB:=h_ (And.intro b2 h1);have hw:wrap64 (x.here+t.length)=x.here+t.length:=IntWalk.wrap64_in _ (by omega)
 clear h hok h1 h2 h3 b1 b2 b3 b4
 go_enter Tryz.func369,Tryz.ntmps369
 go_wp2_with fail;refine HR.out.mono ?_;rintro e w1 ⟨rfl,k1⟩;have H1:=h_ (H0.out.keeps k1 id id id);have K1:=h_ k1;have c0:=H1.out.c0;have c3:=H1.out.c3;clear k1;go_wp2_with fail
 go_still_tail 9,(by kernel_rfl)
 change wpList _ _ _ _ _ w1.drew
 have H2:=h_ (H1.out.keeps (kd_ w1) id id id);have K2:=h_ (K1.out.trans (kd_ w1));generalize w1.drew=w2 at H2 K2 ⊢;clear c0 c3;go_wp2_with fail;refine (HS.out _ H2.out).mono ?_;rintro e w3 ⟨rfl,m3,k3⟩;have H3:=h_ (H2.out.withMem m3 HZ.out k3);have K3:=h_ ((K2.out.mono (T:=fun k=>k=s∨k=bb) (fun _ _ e=>e.elim)).trans (k3.mono (fun _ _ e=>.inr e)))
 have c3:w3.cell? ⟨s,3,none⟩=some (.int .i64 x.here):=H3.out.c3;have f3:=H3.out.f 3;clear m3 k3;have H4:=h_ (H3.out.withHere (x.here+t.length) (by show x.lo≤_;have:=HB.out;omega) (by show _≤x.to;have:=HB.out;omega))
 have K4:=h_ (K3.out.trans ((Keeps.setCell (S:=fun k=>k=s) w3 ⟨s,3,none⟩ (.int .i64 (x.here+t.length)) (fun _=>rfl)).mono (fun _ _ e=>.inl e)))
 go_wp2_with fail;go_ret
 exact ⟨rfl,H4.out,K4.out⟩
theorem Sp.chars0 (x:Sp):x.chars [0]=x.char 0:=by
 unfold Sp.chars Sp.char;have:x.mem.setText x.here [0]=x.mem.setByte x.here 0:=rfl;rw [this];rfl
theorem Sp.align_succ {x:Sp} (h:x.align.2=0) (h8:x.here % 8≠0):(x.char 0).2=0:=by
 by_cases e:(x.char 0).2=0
 · exact e
 · exfalso
   unfold Sp.align at h;rw [Sp.alignN,if_neg h8,if_pos e] at h;exact e h
theorem rs_align (w:World) (s b bb:Nat) (x:Sp) (hok:x.align.2=0) (h:RRs w s b bb x):Calls Tryz.prog 367 #[.pointer (some ⟨s,0,none⟩)] w (RsOk s b bb x.align.1 w):=by
 have HQ:=h_ hok;have H0:=h_ h;clear hok h
 go_enter Tryz.func367,Tryz.ntmps367
 go_wp2_with fail
 go_loopw [2,3] (fun _ _ wr=>∃ y:Sp,y.align=x.align∧RRs wr s b bb y∧Keeps (fun k=>k=s∨k=bb) w wr)
  (fun _ _ wr=>match wr.cell? ⟨s,3,none⟩ with | some (.int _ n)=>((8-n % 8) % 8).toNat | _=>0)
 case atStart=>exact ⟨x,rfl,H0.out,Keeps.refl _ _⟩
 case round =>
  obtain ⟨y,hy,hr,hw⟩:=hrel;have c3:=hr.c3;obtain ⟨b1,b2,b3,b4⟩:=hr.bd;have HR:=h_ hr;have HY:=h_ hy;have HW:=h_ hw;have ht:y.here.tmod 8=y.here % 8:=Int.tmod_eq_emod_of_nonneg (by omega)
  clear hr hy hw;by_cases h8:y.here % 8=0
  · have h8':(y.here % 8 != 0)=false:=by simp [h8]
    have hz:y.align=(y,0):=by unfold Sp.align;rw [Sp.alignN,if_pos h8]
    have HZ:=h_ hz;clear hz h8;go_wp2_with fail;go_ret
    rw [← HY.out,HZ.out];exact ⟨rfl,HR.out,HW.out⟩
  · have h8':(y.here % 8 != 0)=true:=by simp [h8]
    have he:(y.char 0).2=0:=Sp.align_succ (by rw [HY.out];exact HQ.out) h8
    have HC:=h_ (rs_chars wr s b bb y [0] (by decide) (by rw [Sp.chars0];exact he) HR.out)
    rw [Sp.chars0] at HC;have hst:=h_ (Sp.align_step y h8 he);have hh:=Sp.char_here 0 he;have HH:=h_ hh;have C3:=h_ c3;clear hh he h8;go_wp2_with fail;refine HC.out.mono ?_;rintro e w2 ⟨rfl,g1,g2⟩;have G1:=h_ g1;have G2:=h_ (HW.out.trans g2);have C4:=h_ g1.c3;clear g1 g2;go_wp2_with fail
    go_roundw
    case rel=>exact ⟨_,by rw [← HY.out,hst.out],G1.out,G2.out⟩
    case measure =>
     have c3':=C4.out;rw [HH.out] at c3';simp only [C3.out,c3']
     have:¬ y.here % 8=0:=by simpa using h8'
     omega
theorem ref_right (w:World) (b bb:Nat) (m:Mem) (lo hi:Int) (h:RRm w b bb m) (h0:0≤lo) (h1:lo % 8=0) (h2:hi % 8=0) (h3:hi≤m.size) (h4:16≤hi-lo) :
 Calls Tryz.prog 133 #[.pointer (some ⟨b,0,none⟩),.int .i64 lo,.int .i64 hi] w fun e w'=>e=.returned (.bool true)∧w=w':=by
 have c0:=h.cell;have hl:=h.le;have e1:lo.tmod 8=0:=by rw [Int.tmod_eq_emod_of_nonneg h0];exact h1
 have e2:hi.tmod 8=0:=by rw [Int.tmod_eq_emod_of_nonneg (by omega)];exact h2
 have hw:wrap64 (hi-lo)=hi-lo:=IntWalk.wrap64_in _ (by omega)
 have d1:decide (0≤lo)=true:=decide_eq_true h0;have d2:(lo.tmod 8 == 0)=true:=by rw [e1];rfl
 have d3:(hi.tmod 8 == 0)=true:=by rw [e2];rfl
 have d4:decide (hi≤(m.size:Int))=true:=decide_eq_true h3;have d5:decide (lo≤hi)=true:=decide_eq_true (by omega)
 have d6:decide ((16:Int)≤wrap64 (hi-lo))=true:=decide_eq_true (by rw [hw];exact h4)
 clear h hw h0 h1 h2 h3 h4 e1 e2 hl
 go_enter Tryz.func133,Tryz.ntmps133
 go_upto_region 2 with fail;generalize m.size=sz at *;go_wp2_with fail;go_ret
 exact ⟨rfl,rfl⟩
theorem ref_hnew (w:World) (b bb:Nat) (m:Mem) (lo hi:Int) (h:RRm w b bb m) (h0:0≤lo) (h3:hi≤m.size) (h4:lo≤hi) :
 Calls Tryz.prog 134 #[.pointer (some ⟨b,0,none⟩),.int .i64 lo,.int .i64 hi] w fun e w'=>∃ g:Nat,e=.returned (.pointer (some ⟨g,0,none⟩))∧RRm w' b bb (m.setCell lo (hi-lo)).1∧w.heap.size≤g∧Keeps (fun k=>k=bb) w w':=by
 have hl:=h.le;have hw:wrap64 (hi-lo)=hi-lo:=IntWalk.wrap64_in _ (by omega)
 have HS:=h_ (rm_setCell w b bb m lo (hi-lo) h);generalize m.setCell lo (hi-lo)=r at HS ⊢;rw [← hw] at HS;clear hw h hl h0 h3 h4
 go_enter Tryz.func134,Tryz.ntmps134
 go_wp2_with fail;refine HS.out.mono ?_;rintro e w1 ⟨rfl,r1,k1⟩;have R1:=h_ r1;have K1:=h_ k1;clear r1 k1;go_wp2_with fail;go_ret
 have kA:=ka_ w1 (.cells #[.pointer (some ⟨b,0,none⟩),.int .i64 lo,.int .i64 hi] 305);exact ⟨_,rfl,R1.out.keeps kA id id,K1.out.size,K1.out.trans (kA.mono (fun _ _ e=>e.elim))⟩
end Go.Proofs.Shed
