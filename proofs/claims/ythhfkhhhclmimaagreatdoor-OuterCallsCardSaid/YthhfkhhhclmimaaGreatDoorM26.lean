/- Of CallsG: WHeadM, WRfA, WRfB. No condition. -/
import Derived.Test.YthhfkhhhclmimaaGreatDoorM25
import Derived.Test.YthhfkhhhclmimaaGreatDoorM04
set_option linter.unusedVariables false
set_option linter.unusedSimpArgs false
set_option maxRecDepth 10000
set_option maxHeartbeats 4000000
namespace Go.Proofs.Shed
open Go Go.RowKit Go.Proofs.K
def Mem.markWd (m:Mem) (a fl:Int):Mem × Int :=
 match m.readWd a with
 | none=>(m,-256)
 | some (x,_)=>if fl<0∨255<fl then (m,-256) else m.setCell (a+8) (x.name.length+fl*256)
theorem readWd_name31 {m:Mem} {a:Int} {d:Wd} {l:Int} (e:m.readWd a=some (d,l)):d.name.length≤31:=by
 unfold Mem.readWd at e;simp only at e
 split at e
 · cases e
 · rename_i h1
   split at e
   · cases e
   · cases e
     have h3:¬ 31<(m.cell (a+8)).1 % 256:=fun h=>h1 (.inr (.inr (.inl h)))
     show (m.text (a+16) ((m.cell (a+8)).1 % 256)).1.length≤31
     unfold Mem.text;split
     · simp only [bytesN_len];omega
     · simp
theorem head_mark (w:World) (b bb:Nat) (m:Mem) (d:Wd) (fl:Int) (h:RMem w b bb m) (a0:0≤d.at_) (a1:d.at_≤4194304) (f0:0≤fl) (f1:fl≤255) :
 Calls Tryz.prog 37 #[.pointer (some ⟨b,0,none⟩),d.val,.int .i64 fl] w fun e w'=>e=.returned (.int .i64 (m.markWd d.at_ fl).2)∧RMem w' b bb (m.markWd d.at_ fl).1∧Keeps (fun g=>g=bb) w w':=by
 have H:=h_ h;obtain ⟨at_,xt,flags,name⟩:=d;simp only at a0 a1 ⊢
 unfold Wd.val;simp only
 have HRD:=h_ fun V (hV:RMem V b bb m)=>head_read V b bb m at_ hV a0 a1
 have hk:m.markWd at_ fl=match m.readWd at_ with
  | none=>(m,-256)
  | some (x,_)=>if fl<0∨255<fl then (m,-256) else m.setCell (at_+8) (x.name.length+fl*256):=rfl
 generalize m.markWd at_ fl=Q at hk ⊢;have hn:=fun d l (e:m.readWd at_=some (d,l))=>readWd_name31 e
 generalize m.readWd at_=r at hk HRD hn;clear h
 cases r with
 | none =>
  simp only at hk
  subst hk;unfold readWdV Wd.val Wd.none at HRD;simp only at HRD
  have M0:=h_ (H.out.keeps (ka_ w (.cells #[.int .i64 at_,.int .i64 xt,.int .i64 flags,.string ⟨name.toArray⟩] 53)) id id);have K0:=h_ (Keeps.alloc (fun g=>g=bb) w (.cells #[.int .i64 at_,.int .i64 xt,.int .i64 flags,.string ⟨name.toArray⟩] 53))
  have hw0:=h_ (halloc_at w (.cells #[.int .i64 at_,.int .i64 xt,.int .i64 flags,.string ⟨name.toArray⟩] 53))
  go_enter Tryz.func37,Tryz.ntmps37
  go_wp2_with fail;refine (HRD.out _ M0.out).mono ?_;rintro e w1 ⟨rfl,k1⟩;have M1:=h_ (M0.out.keeps k1 id id);have K1:=h_ (K0.out.trans (k1.mono (fun _ _ e=>e.elim)))
  have e0:w1.cell? ⟨w.heap.size,0,none⟩=some (.int .i64 at_):=k1.cell (cell_of hw0.out rfl) id;clear k1
  skip
  have R2:=h_ (M1.out.keeps (ka_ w1 (.cells #[.int .i64 0,.int .i64 0,.int .i64 0,.string ⟨#[]⟩] 53)) id id);have K2:=h_ (K1.out.trans (Keeps.alloc _ w1 (.cells #[.int .i64 0,.int .i64 0,.int .i64 0,.string ⟨#[]⟩] 53)));go_wp2_with fail;go_ret
  exact ⟨rfl,R2.out,K2.out⟩
 | some x =>
  obtain ⟨⟨ya,yx,yf,yn⟩,l⟩:=x;have hn31:=hn _ _ rfl;simp only at hn31 hk
  rw [if_neg (by omega)] at hk
  subst hk;unfold readWdV Wd.val at HRD;simp only at HRD
  have HS:=h_ fun V (hV:RMem V b bb m)=>mem_setCell V b bb m (at_+8) (yn.length+fl*256) hV
  have hw:wrap64 (fl*256)=fl*256:=IntWalk.wrap64_in _ (by omega)
  have hw2:wrap64 ((yn.length:Int)+fl*256)=(yn.length:Int)+fl*256:=IntWalk.wrap64_in _ (by omega)
  clear hn;have M0:=h_ (H.out.keeps (ka_ w (.cells #[.int .i64 at_,.int .i64 xt,.int .i64 flags,.string ⟨name.toArray⟩] 53)) id id);have K0:=h_ (Keeps.alloc (fun g=>g=bb) w (.cells #[.int .i64 at_,.int .i64 xt,.int .i64 flags,.string ⟨name.toArray⟩] 53))
  have hw0:=h_ (halloc_at w (.cells #[.int .i64 at_,.int .i64 xt,.int .i64 flags,.string ⟨name.toArray⟩] 53))
  go_enter Tryz.func37,Tryz.ntmps37
  go_wp2_with fail;refine (HRD.out _ M0.out).mono ?_;rintro e w1 ⟨rfl,k1⟩;have M1:=h_ (M0.out.keeps k1 id id);have K1:=h_ (K0.out.trans (k1.mono (fun _ _ e=>e.elim)))
  have e0:w1.cell? ⟨w.heap.size,0,none⟩=some (.int .i64 at_):=k1.cell (cell_of hw0.out rfl) id;clear k1
  skip
  have R2:=h_ (M1.out.keeps (ka_ w1 (.cells #[.int .i64 ya,.int .i64 yx,.int .i64 yf,.string ⟨yn.toArray⟩] 53)) id id);have K2:=h_ (K1.out.trans (Keeps.alloc _ w1 (.cells #[.int .i64 ya,.int .i64 yx,.int .i64 yf,.string ⟨yn.toArray⟩] 53)));have e1:=(ka_ w1 (.cells #[.int .i64 ya,.int .i64 yx,.int .i64 yf,.string ⟨yn.toArray⟩] 53)).cell e0 id;have e3:(w1.alloc (.cells #[.int .i64 ya,.int .i64 yx,.int .i64 yf,.string ⟨yn.toArray⟩] 53)).cell? ⟨w1.heap.size,3,none⟩=some (.string ⟨yn.toArray⟩):=cell_of (halloc_at w1 _) rfl;clear e0;go_wp2_with fail;refine (HS.out _ R2.out).mono ?_;rintro e w3 ⟨rfl,m3,k3⟩;have M3:=h_ m3;have K3:=h_ (K2.out.trans k3);clear m3 k3;go_wp2_with fail;go_ret
  exact ⟨rfl,M3.out,K3.out⟩
theorem ref_lower (w:World) (s:List UInt8) (hs:s.length≤1000000):Calls Tryz.prog 368 #[.string ⟨s.toArray⟩] w fun e w'=>e=.returned (.string ⟨(lower s).toArray⟩)∧Keeps (fun _=>False) w w':=by
 go_enter Tryz.func368,Tryz.ntmps368
 go_wp2_with fail
 go_loopw [3,4] (fun ov iv wr=>∃ i:Nat,i≤s.length∧iv=.int .i64 i∧ov=.string ⟨(lower (s.take i)).toArray⟩∧Keeps (fun _=>False) w wr) (fun _ i _=>s.length-(intOf i).toNat)
 case atStart=>exact ⟨0,Nat.zero_le _,rfl,rfl,Keeps.refl _ _⟩
 case round =>
  obtain ⟨i,hi,rfl,rfl,hk⟩:=hrel;have HK:=h_ hk;clear hk;by_cases hlt:i<s.length
  · have c2:(i:Int)<s.length:=by omega
    have c3:(0:Int)≤i:=by omega
    have c7:wrap64 ((i:Int)+1)=(i:Int)+1:=IntWalk.wrap64_in _ (by omega)
    have htk:lower (s.take (i+1))=lower (s.take i)++[lowB s[i]]:=by
     unfold lower;rw [show s.take (i+1)=s.take i++[s[i]] from by simp,List.map_append]
     rfl
    have HT:=h_ htk;have hll:(lower (s.take i)).length=i:=by unfold lower;simp;omega
    obtain ⟨c,hc⟩:∃ c,c=s[i]:=⟨_,rfl⟩;have HCI:=h_ hc;rw [← hc] at HT;generalize lower (s.take i)=o at HT hll ⊢;have hm1:¬ 9223372036854775807<o.length+1:=by omega
    have conv:∀ (v:UInt8),(convert 143 9 (.slice (some ⟨wr.heap.size,0,none⟩) 1 1)).run Tryz.prog (wr.alloc (.cells #[.int .u8 (v.toNat:Int)] 5))=.ok (.string ⟨#[v]⟩) (wr.alloc (.cells #[.int .u8 (v.toNat:Int)] 5)):=by
     intro v
     have:=run_convert_bytes_arg (P:=Tryz.prog) (wr.alloc (.cells #[.int .u8 (v.toNat:Int)] 5)) 143 5 Tryz.underlying143 Tryz.underlying5 wr.heap.size 0 1 1 [(v.toNat:Int)] rfl (fun j hj=>by
      have:j=0:=by omega
      subst this
      exact cell_of (halloc_at wr _) rfl) 9 Tryz.underlying9
     rw [this]
     have h2:strOfNums [(v.toNat:Int)]=⟨#[v]⟩:=by
      unfold strOfNums;simp
     rw [h2]
    have KA:=h_ fun (v:UInt8)=>HK.out.trans (ka_ wr (.cells #[.int .u8 (v.toNat:Int)] 5))
    clear htk;go_upto_region 5 with fail
    go_cut [5] (fun v wx=>v=.int .u8 (c.toNat:Int)∧wx=wr)
    case first =>
     go_wp2_with fail
     go_meet
     exact ⟨by rw [HCI.out];rfl,rfl⟩
    case rest =>
     obtain ⟨rfl,rfl⟩:=hcut;clear hc;by_cases h65:65≤c.toNat
     · by_cases h90:c.toNat≤90
       · have hv:((lowB c).toNat:Int)=(c.toNat:Int)+32:=lowB_hit ⟨h65,h90⟩
         have cv:=conv (lowB c);rw [hv] at cv;have KB:=KA.out (lowB c);rw [hv] at KB;have KC:=h_ KB;have w1:IntKind.u8.wrap ((c.toNat:Int)+32)=(c.toNat:Int)+32:=by show ((c.toNat:Int)+32) % 256=_;omega
         have f65:(65:Int)≤(c.toNat:Int):=by omega
         have f90:(c.toNat:Int)≤90:=by omega
         clear conv KB hv h65 h90;go_wp2_with fail
         go_roundw
         case rel=>exact ⟨i+1,by omega,by go_num,by rw [HT.out];rfl,KC.out⟩
         case measure=>simp [intOf];omega
       · have hv:lowB c=c:=lowB_miss (fun e=>h90 e.2)
         rw [hv] at HT;have cv:=conv c;have KC:=h_ (KA.out c);have f65:(65:Int)≤(c.toNat:Int):=by omega
         have f90:(90:Int)<(c.toNat:Int):=by omega
         clear conv hv h65 h90;go_wp2_with fail
         go_roundw
         case rel=>exact ⟨i+1,by omega,by go_num,by rw [HT.out];rfl,KC.out⟩
         case measure=>simp [intOf];omega
     · have hv:lowB c=c:=lowB_miss (fun e=>h65 e.1)
       rw [hv] at HT;have cv:=conv c;have KC:=h_ (KA.out c);have f65:(c.toNat:Int)<65:=by omega
       clear conv hv h65;go_wp2_with fail
       go_roundw
       case rel=>exact ⟨i+1,by omega,by go_num,by rw [HT.out];rfl,KC.out⟩
       case measure=>simp [intOf];omega
  · have hil:i=s.length:=by omega
    subst hil;have hn:¬ ((s.length:Int)<s.length):=by omega
    rw [List.take_length];clear hlt;go_wp2_with fail;go_ret
    exact ⟨rfl,HK.out⟩
theorem Sp.and_zero {r:Sp × Int} {f:Sp→Sp × Int} (h:(Sp.andThen r f).2=0):r.2=0∧(f r.1).2=0∧Sp.andThen r f=f r.1:=by
 unfold Sp.andThen at h ⊢;split at h
 · rename_i e;exact absurd h e
 · rename_i e;rw [if_neg e];exact ⟨by simpa using e,h,rfl⟩
theorem Sp.create_succ {x:Sp} {l:Int} {name:List UInt8} {fl cd:Int} (h:(x.create l name fl cd).2.2=0):∃ y0 y1 y2 y3 y4 y5 y6:Sp,name≠[]∧name.length≤31∧(x.mem.cell l).2=0∧x.align=(y0,0)∧y0.comma (x.mem.cell l).1=(y1,0) ∧
 y1.comma (name.length+fl*256)=(y2,0)∧y2.chars (lower name)=(y3,0)∧y3.align=(y4,0)∧y4.comma cd=(y5,0)∧y5.setCellAt l y0.here=(y6,0)∧x.create l name fl cd=(y6,⟨y0.here,y4.here,fl,lower name⟩,0):=by
 unfold Sp.create at h ⊢;split at h
 · cases h
 · rename_i hn
   rw [if_neg hn];split at h
   · rename_i h6;exact absurd h h6
   · rename_i h6
     rw [if_neg h6];have h6:(x.cr6 l name fl cd).2=0:=by simpa using h6
     obtain ⟨h5,a6,e6⟩:=Sp.and_zero h6;obtain ⟨h4,a5,e5⟩:=Sp.and_zero h5;obtain ⟨h3,a4,e4⟩:=Sp.and_zero h4;obtain ⟨h2,a3,e3⟩:=Sp.and_zero h3;obtain ⟨h1,a2,e2⟩:=Sp.and_zero h2;obtain ⟨h0,a1,e1⟩:=Sp.and_zero h1
     have hc:(x.mem.cell l).2=0:=by
      unfold Sp.cr0 at h0;split at h0
      · rename_i e;exact e
      · exact h0
     have e0:x.cr0 l=x.align:=by unfold Sp.cr0;rw [if_pos hc]
     have f0:x.cr0 l=((x.cr0 l).1,0):=Prod.ext rfl h0;have f1:x.cr1 l=((x.cr1 l).1,0):=Prod.ext rfl h1;have f2:x.cr2 l name fl=((x.cr2 l name fl).1,0):=Prod.ext rfl h2;have f3:x.cr3 l name fl=((x.cr3 l name fl).1,0):=Prod.ext rfl h3;have f4:x.cr4 l name fl=((x.cr4 l name fl).1,0):=Prod.ext rfl h4;have f5:x.cr5 l name fl cd=((x.cr5 l name fl cd).1,0):=Prod.ext rfl h5;have f6:x.cr6 l name fl cd=((x.cr6 l name fl cd).1,0):=Prod.ext rfl h6
     refine ⟨(x.cr0 l).1,(x.cr1 l).1,(x.cr2 l name fl).1,(x.cr3 l name fl).1,(x.cr4 l name fl).1,(x.cr5 l name fl cd).1,(x.cr6 l name fl cd).1,fun e=>hn (.inl e),by
      have:=fun e=>hn (.inr e)
      omega,hc,by rw [← e0];exact f0,e1 ▸ f1,e2 ▸ f2,e3 ▸ f3,e4 ▸ f4,e5 ▸ f5,e6 ▸ f6,rfl⟩
theorem RsOk.of {s b bb:Nat} {x y:Sp} {w:World} {e:Ending} {w':World} (h:RsOk s b bb x w e w') (hx:x=y):RsOk s b bb y w e w':=hx ▸ h
theorem ref_list (w:World) (s b bb:Nat) (x:Sp) (h0:x.list.2.2=0) (h:RRs w s b bb x):Calls Tryz.prog 214 #[.pointer (some ⟨s,0,none⟩)] w fun e w'=>e=.returned (.tuple #[.int .i64 x.list.2.1,.int .i64 0])∧RRs w' s b bb x.list.1∧Keeps (fun k=>k=s∨k=bb) w w':=by
 have hl:x.align.2=0∧(x.align.1.comma 0).2=0∧x.list=((x.align.1.comma 0).1,x.align.1.here,0):=by
  unfold Sp.list at h0 ⊢;split at h0
  · rename_i e;exact absurd h0 e
  · rename_i e
    split at h0
    · rename_i e2;exact absurd h0 e2
    · rename_i e2;rw [if_neg e,if_neg e2];exact ⟨by simpa using e,by simpa using e2,rfl⟩
 obtain ⟨h1,h2,h3⟩:=hl;rw [h3];have HA:=h_ (rs_align w s b bb x h1 h);have HC:=h_ fun V (hV:RRs V s b bb x.align.1)=>rs_comma V s b bb x.align.1 0 h2 hV
 generalize x.align.1=y at HA HC ⊢;generalize (y.comma 0).1=z at HC ⊢;clear h h0 h1 h2 h3
 go_enter Tryz.func214,Tryz.ntmps214
 go_wp2_with fail;refine HA.out.mono ?_;rintro e w1 ⟨rfl,r1,k1⟩;have R1:=h_ r1;have K1:=h_ k1;have c3:=r1.c3;clear r1 k1;go_wp2_with fail;refine (HC.out _ R1.out).mono ?_;rintro e w2 ⟨rfl,r2,k2⟩;have R2:=h_ r2;have K2:=h_ (K1.out.trans k2);clear r2 k2;go_wp2_with fail;go_ret2
 exact ⟨rfl,R2.out,K2.out⟩
theorem RRs.lts {w:World} {s b bb:Nat} {x:Sp} (h:RRs w s b bb x):s<w.heap.size∧b<w.heap.size∧bb<w.heap.size:=⟨lt_of_heap h.head,h.mem.lt⟩
theorem ref_create (w:World) (s b bb:Nat) (x:Sp) (l:Int) (name:List UInt8) (fl cd:Int) (hf0:0≤fl) (hf1:fl≤255) (hok:(x.create l name fl cd).2.2=0) (h:RRs w s b bb x) :
 Calls Tryz.prog 215 #[.pointer (some ⟨s,0,none⟩),.int .i64 l,.string ⟨name.toArray⟩,.int .i64 fl,.int .i64 cd] w
 fun e w'=>e=.returned (.tuple #[(x.create l name fl cd).2.1.val,.int .i64 0])∧RRs w' s b bb (x.create l name fl cd).1∧Keeps (fun k=>k=s∨k=bb) w w':=by
 obtain ⟨y0,y1,y2,y3,y4,y5,y6,n0,n1,h0,e0,e1,e2,e3,e4,e5,e6,ec⟩:=Sp.create_succ hok;rw [ec];have HC:=h_ fun V (hV:RRs V s b bb x)=>rm_cell V b bb x.mem l hV.mem
 rw [h0] at HC;have HLW:=h_ fun V=>ref_lower V name (by omega)
 have A0:=h_ fun V (hV:RRs V s b bb x)=>(rs_align V s b bb x (by rw [e0]) hV).mono fun _ _ h=>h.of (show _=y0 by rw [e0])
 have A1:=h_ fun V (hV:RRs V s b bb y0)=>(rs_comma V s b bb y0 (x.mem.cell l).1 (by rw [e1]) hV).mono fun _ _ h=>h.of (show _=y1 by rw [e1])
 have A2:=h_ fun V (hV:RRs V s b bb y1)=>(rs_comma V s b bb y1 (name.length+fl*256) (by rw [e2]) hV).mono fun _ _ h=>h.of (show _=y2 by rw [e2])
 have hll:(lower name).length=name.length:=by unfold lower;simp
 have A3:=h_ fun V (hV:RRs V s b bb y2)=>(rs_chars V s b bb y2 (lower name) (by omega) (by rw [e3]) hV).mono fun _ _ h=>h.of (show _=y3 by rw [e3])
 have A4:=h_ fun V (hV:RRs V s b bb y3)=>(rs_align V s b bb y3 (by rw [e4]) hV).mono fun _ _ h=>h.of (show _=y4 by rw [e4])
 have A5:=h_ fun V (hV:RRs V s b bb y4)=>(rs_comma V s b bb y4 cd (by rw [e5]) hV).mono fun _ _ h=>h.of (show _=y5 by rw [e5])
 have h6:(y5.mem.setCell l y0.here).2=0:=congrArg Prod.snd e6;have h6b:{ y5 with mem:=(y5.mem.setCell l y0.here).1 }=y6:=congrArg Prod.fst e6;have A6:=h_ fun V (hV:RRs V s b bb y5)=>rm_setCell V b bb y5.mem l y0.here hV.mem
 rw [h6] at A6;have Z6:=h_ (Mem.setCell_size y5.mem l y0.here);have H6B:=h_ h6b;generalize (y5.mem.setCell l y0.here).1=m6 at A6 Z6 H6B;generalize (x.mem.cell l).1=link at HC A1;generalize lower name=low at HLW A3 ⊢;have R0:=h_ (h.keeps (ka_ w (.cells #[.int .i64 0,.int .i64 0,.int .i64 0,.string ⟨#[]⟩] 307)) id id id);have K0:=h_ (Keeps.alloc (fun k=>k=s∨k=bb) w (.cells #[.int .i64 0,.int .i64 0,.int .i64 0,.string ⟨#[]⟩] 307))
 have B0:=h_ (halloc_at w (.cells #[.int .i64 0,.int .i64 0,.int .i64 0,.string ⟨#[]⟩] 307));have LT:=h_ h.lts;have f1:name.isEmpty=false:=by cases name with | nil=>exact absurd rfl n0 | cons=>rfl
 have f2:¬ (31:Int)<(name.length:Int):=by omega
 have f3:wrap64 (256*fl)=fl*256:=by rw [Int.mul_comm];exact IntWalk.wrap64_in _ (by omega)
 have f4:wrap64 ((name.length:Int)+fl*256)=name.length+fl*256:=IntWalk.wrap64_in _ (by omega)
 clear h0 e0 e1 e2 e3 e4 e5 e6 ec h6 h6b hok h n0 n1 hll;have c0:=R0.out.c0
 go_enter Tryz.func215,Tryz.ntmps215
 go_wp2_with fail;refine (HC.out _ R0.out).mono ?_;rintro e w1 ⟨rfl,rfl⟩;have c3:=R0.out.c3;go_wp2_with fail;refine (HLW.out _).mono ?_;rintro e w1 ⟨rfl,k1⟩;have R1:=h_ (R0.out.keeps k1 id id id);have K1:=h_ (K0.out.trans (k1.mono (fun _ _ e=>e.elim)))
 have B1:=h_ (k1.heap B0.out id);clear k1 c0 c3;go_upto_region 8 with fail;obtain ⟨g15,hg15⟩:∃ g15,g15=w1.heap.size:=⟨_,rfl⟩;have ka:=ka_ w1 (.cells #[.int .i64 0,.int .i64 0,.int .i64 fl,.string ⟨low.toArray⟩] 307);have G2:=h_ (halloc_at w1 (.cells #[.int .i64 0,.int .i64 0,.int .i64 fl,.string ⟨low.toArray⟩] 307));rw [← hg15] at G2 ⊢;have hlt1:=R1.out.lts;have hbx:=lt_of_heap B1.out;have NG:=h_ (show g15≠s∧g15≠bb∧w.heap.size≠s∧w.heap.size≠bb from by have:=LT.out;omega)
 have NB:=h_ (show g15≠b from by omega)
 have NBX:=h_ (show g15≠w.heap.size from by omega)
 have NLT:=h_ (show w.heap.size<g15 from by omega)
 have R2:=h_ (R1.out.keeps ka id id id);have B2:=h_ (ka.heap B1.out id);have K2:=h_ (K1.out.trans (ka.mono (fun _ _ e=>e.elim)))
 generalize w1.alloc (.cells #[.int .i64 0,.int .i64 0,.int .i64 fl,.string ⟨low.toArray⟩] 307)=w2 at G2 R2 B2 K2 ⊢;clear ka hg15 hlt1 hbx;go_wp2_with fail;refine (A0.out _ R2.out).mono ?_;rintro e w3 ⟨rfl,r3,k3⟩;have R3:=h_ r3;have G3:=h_ (show w3.heap[g15]?=some (.cells #[.int .i64 0,.int .i64 0,.int .i64 fl,.string ⟨low.toArray⟩] 307 (0,0)) from k3.heap G2.out (fun e=>NG.out.elim (fun n1 n2=>e.elim n1 n2.1)))
 have B3:=h_ (k3.heap B2.out (fun e=>NG.out.elim (fun n1 n2=>e.elim n2.2.1 n2.2.2)))
 have K3:=h_ (K2.out.trans k3);clear r3 k3;have c3:=R3.out.c3;have f15:=free_of (i:=0) G3.out;have y15:w3.cell? ⟨g15,0,none⟩=some (.int .i64 0):=cell_of G3.out rfl;have ks:=Keeps.setCell (S:=fun k=>k=g15) w3 ⟨g15,0,none⟩ (.int .i64 y0.here) (fun _=>rfl)
 have R4:=h_ (R3.out.keeps ks (fun e=>NG.out.1 (by have e:s=g15:=e;exact e.symm)) (fun e=>NB.out (by have e:b=g15:=e;exact e.symm)) (fun e=>NG.out.2.1 (by have e:bb=g15:=e;exact e.symm)))
 have G4:=h_ (show (w3.setCell ⟨g15,0,none⟩ (.int .i64 y0.here)).heap[g15]?=some (.cells #[.int .i64 y0.here,.int .i64 0,.int .i64 fl,.string ⟨low.toArray⟩] 307 (0,0)) from hset_same (i:=0) G3.out (.int .i64 y0.here))
 have B4:=h_ (ks.heap B3.out (fun e=>NBX.out (by have e:w.heap.size=g15:=e;exact e.symm)))
 have K4:=h_ (K3.out.trans' ks (fun i hi e=>by have e:i=g15:=e;have:=NLT.out;omega))
 clear ks;go_wp2_with fail;clear c3 f15 y15;generalize w3.setCell ⟨g15,0,none⟩ (.int .i64 y0.here)=w4 at R4 G4 B4 K4 ⊢;refine (A1.out _ R4.out).mono ?_;rintro e w5 ⟨rfl,r5,k5⟩;have R5:=h_ r5;have G5:=h_ (show w5.heap[g15]?=some (.cells #[.int .i64 y0.here,.int .i64 0,.int .i64 fl,.string ⟨low.toArray⟩] 307 (0,0)) from k5.heap G4.out (fun e=>NG.out.elim (fun n1 n2=>e.elim n1 n2.1)))
 have B5:=h_ (k5.heap B4.out (fun e=>NG.out.elim (fun n1 n2=>e.elim n2.2.1 n2.2.2)))
 have K5:=h_ (K4.out.trans k5);clear r5 k5;go_wp2_with fail;rw [Int.mul_comm 256 fl];refine (A2.out _ R5.out).mono ?_;rintro e w6 ⟨rfl,r6,k6⟩;have R6:=h_ r6;have G6:=h_ (show w6.heap[g15]?=some (.cells #[.int .i64 y0.here,.int .i64 0,.int .i64 fl,.string ⟨low.toArray⟩] 307 (0,0)) from k6.heap G5.out (fun e=>NG.out.elim (fun n1 n2=>e.elim n1 n2.1)))
 have B6:=h_ (k6.heap B5.out (fun e=>NG.out.elim (fun n1 n2=>e.elim n2.2.1 n2.2.2)))
 have K6:=h_ (K5.out.trans k6);clear r6 k6;have y3:w6.cell? ⟨g15,3,none⟩=some (.string ⟨low.toArray⟩):=cell_of G6.out rfl;go_wp2_with fail;clear y3;refine (A3.out _ R6.out).mono ?_;rintro e w7 ⟨rfl,r7,k7⟩;have R7:=h_ r7;have G7:=h_ (show w7.heap[g15]?=some (.cells #[.int .i64 y0.here,.int .i64 0,.int .i64 fl,.string ⟨low.toArray⟩] 307 (0,0)) from k7.heap G6.out (fun e=>NG.out.elim (fun n1 n2=>e.elim n1 n2.1)))
 have B7:=h_ (k7.heap B6.out (fun e=>NG.out.elim (fun n1 n2=>e.elim n2.2.1 n2.2.2)))
 have K7:=h_ (K6.out.trans k7);clear r7 k7;go_wp2_with fail;refine (A4.out _ R7.out).mono ?_;rintro e w8 ⟨rfl,r8,k8⟩;have R8:=h_ r8;have G8:=h_ (show w8.heap[g15]?=some (.cells #[.int .i64 y0.here,.int .i64 0,.int .i64 fl,.string ⟨low.toArray⟩] 307 (0,0)) from k8.heap G7.out (fun e=>NG.out.elim (fun n1 n2=>e.elim n1 n2.1)))
 have B8:=h_ (k8.heap B7.out (fun e=>NG.out.elim (fun n1 n2=>e.elim n2.2.1 n2.2.2)))
 have K8:=h_ (K7.out.trans k8);clear r8 k8;have c3:=R8.out.c3;have f15:=free_of (i:=1) G8.out;have y15:w8.cell? ⟨g15,1,none⟩=some (.int .i64 0):=cell_of G8.out rfl;have ks:=Keeps.setCell (S:=fun k=>k=g15) w8 ⟨g15,1,none⟩ (.int .i64 y4.here) (fun _=>rfl)
 have R9:=h_ (R8.out.keeps ks (fun e=>NG.out.1 (by have e:s=g15:=e;exact e.symm)) (fun e=>NB.out (by have e:b=g15:=e;exact e.symm)) (fun e=>NG.out.2.1 (by have e:bb=g15:=e;exact e.symm)))
 have G9:=h_ (show (w8.setCell ⟨g15,1,none⟩ (.int .i64 y4.here)).heap[g15]?=some (.cells #[.int .i64 y0.here,.int .i64 y4.here,.int .i64 fl,.string ⟨low.toArray⟩] 307 (0,0)) from hset_same (i:=1) G8.out (.int .i64 y4.here))
 have B9:=h_ (ks.heap B8.out (fun e=>NBX.out (by have e:w.heap.size=g15:=e;exact e.symm)))
 have K9:=h_ (K8.out.trans' ks (fun i hi e=>by have e:i=g15:=e;have:=NLT.out;omega))
 clear ks;go_wp2_with fail;clear c3 f15 y15;generalize w8.setCell ⟨g15,1,none⟩ (.int .i64 y4.here)=w9 at R9 G9 B9 K9 ⊢;refine (A5.out _ R9.out).mono ?_;rintro e w10 ⟨rfl,r10,k10⟩;have R10:=h_ r10;have G10:=h_ (show w10.heap[g15]?=some (.cells #[.int .i64 y0.here,.int .i64 y4.here,.int .i64 fl,.string ⟨low.toArray⟩] 307 (0,0)) from k10.heap G9.out (fun e=>NG.out.elim (fun n1 n2=>e.elim n1 n2.1)))
 have B10:=h_ (k10.heap B9.out (fun e=>NG.out.elim (fun n1 n2=>e.elim n2.2.1 n2.2.2)))
 have K10:=h_ (K9.out.trans k10);clear r10 k10;have c0:=R10.out.c0;have y0':w10.cell? ⟨g15,0,none⟩=some (.int .i64 y0.here):=cell_of G10.out rfl;go_wp2_with fail
 go_still_tail 7,(by kernel_rfl)
 change wpList _ _ _ _ _ w10.drew
 have R11:=h_ (R10.out.keeps (kd_ w10) id id id);have G11:=h_ (show w10.drew.heap[g15]?=_ from G10.out)
 have B11:=h_ (show w10.drew.heap[w.heap.size]?=_ from B10.out)
 have K11:=h_ (K10.out.trans (Keeps.drew _ w10));generalize w10.drew=w11 at R11 G11 B11 K11 ⊢;clear c0 y0';go_wp2_with fail;refine (A6.out _ R11.out).mono ?_;rintro e w12 ⟨rfl,m12,k12⟩;have hr12:=R11.out.withMem m12 Z6.out k12;rw [H6B.out] at hr12;have R12:=h_ hr12;have G12:=h_ (show w12.heap[g15]?=some (.cells #[.int .i64 y0.here,.int .i64 y4.here,.int .i64 fl,.string ⟨low.toArray⟩] 307 (0,0)) from k12.heap G11.out NG.out.2.1)
 have B12:=h_ (show w12.heap[w.heap.size]?=some (.cells #[.int .i64 0,.int .i64 0,.int .i64 0,.string ⟨#[]⟩] 307 (0,0)) from k12.heap B11.out NG.out.2.2.2)
 have K12:=h_ (K11.out.trans (k12.mono (fun _ _ e=>.inr e)))
 have x0:w12.cell? ⟨g15,0,none⟩=some (.int .i64 y0.here):=cell_of G12.out rfl;have x1:w12.cell? ⟨g15,1,none⟩=some (.int .i64 y4.here):=cell_of G12.out rfl;have x2:w12.cell? ⟨g15,2,none⟩=some (.int .i64 fl):=cell_of G12.out rfl;have x3:w12.cell? ⟨g15,3,none⟩=some (.string ⟨low.toArray⟩):=cell_of G12.out rfl;have a0:w12.cell? ⟨w.heap.size,0,none⟩=some (.int .i64 0):=cell_of B12.out rfl;have a1:w12.cell? ⟨w.heap.size,1,none⟩=some (.int .i64 0):=cell_of B12.out rfl;have a2:w12.cell? ⟨w.heap.size,2,none⟩=some (.int .i64 0):=cell_of B12.out rfl;have a3:w12.cell? ⟨w.heap.size,3,none⟩=some (.string ⟨#[]⟩):=cell_of B12.out rfl;have q0:=free_of (i:=0) B12.out;have q1:=free_of (i:=1) B12.out;have q2:=free_of (i:=2) B12.out;have q3:=free_of (i:=3) B12.out;clear m12 k12 hr12;go_wp2_with fail;have hB:=set4 B12.out (.int .i64 y0.here) (.int .i64 y4.here) (.int .i64 fl) (.string ⟨low.toArray⟩);have g0:=cell_of (i:=0) hB rfl;have g1:=cell_of (i:=1) hB rfl;have g2:=cell_of (i:=2) hB rfl;have g3:=cell_of (i:=3) hB rfl;have RF:=R12.out.keeps (keeps_set4g w12 w.heap.size (.int .i64 y0.here) (.int .i64 y4.here) (.int .i64 fl) (.string ⟨low.toArray⟩)) (fun e=>NG.out.2.2.1 (by have e:s=w.heap.size:=e;exact e.symm)) (fun e=>by have e:b=w.heap.size:=e;have:=LT.out;omega) (fun e=>NG.out.2.2.2 (by have e:bb=w.heap.size:=e;exact e.symm))
 exact bodyPost_ret (v:=.tuple #[Wd.val ⟨y0.here,y4.here,fl,low⟩,.int .i64 0]) (by simp [results,Tryz.results215,go_sem,Wd.val,g0,g1,g2,g3]) rfl ⟨rfl,RF,keeps_set4 K12.out _ _ _ _ _ (Nat.le_refl _)⟩
end Go.Proofs.Shed
