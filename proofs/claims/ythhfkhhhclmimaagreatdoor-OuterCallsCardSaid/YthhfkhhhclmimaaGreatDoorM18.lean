/- Of CallsG: WFvJ. No condition. -/
import Derived.Test.YthhfkhhhclmimaaGreatDoorM15
import Derived.Test.YthhfkhhhclmimaaGreatDoorM17
set_option linter.unusedVariables false
set_option linter.unusedSimpArgs false
set_option maxRecDepth 10000
set_option maxHeartbeats 4000000
namespace Go.Proofs.Shed
open Go Go.RowKit Go.Proofs.K Go.Proofs.Cod
def Heap.sizeOf (m:Mem) (lo hi a:Int):Int × Int :=
 match Heap.blocks m lo hi with
 | none=>(0,-2052)
 | some l=>if Heap.find l a<0 then (0,-60) else ((l.getD (Heap.find l a).toNat ⟨0,0,false⟩).size-8,0)
theorem Heap.resize_eq (m:Mem) (lo hi a n:Int):Heap.resize m lo hi a n =
 if (Heap.sizeOf m lo hi a).2≠0 then (m,0,(Heap.sizeOf m lo hi a).2) else
 if 0≤n∧n≤(Heap.sizeOf m lo hi a).1 then (m,a,0) else
 if (Heap.alloc m lo hi n).2.2≠0 then ((Heap.alloc m lo hi n).1,0,-61) else
 ((Heap.free (((Heap.alloc m lo hi n).1.setText (Heap.alloc m lo hi n).2.1 ((Heap.alloc m lo hi n).1.text a (Heap.sizeOf m lo hi a).1).1).1) lo hi a).1,(Heap.alloc m lo hi n).2.1,(Heap.free (((Heap.alloc m lo hi n).1.setText (Heap.alloc m lo hi n).2.1 ((Heap.alloc m lo hi n).1.text a (Heap.sizeOf m lo hi a).1).1).1) lo hi a).2):=by
 unfold Heap.resize Heap.sizeOf;generalize Heap.blocks m lo hi=q
 cases q with
 | none=>rfl
 | some l =>
  by_cases h:Heap.find l a<0
  · simp only [if_pos h];rfl
  · simp only [if_neg h];rfl
theorem heap_size (w:World) (h b bb:Nat) (m:Mem) (lo hi x:Int) (H0:RHp w h b bb m lo hi) :
 Calls Tryz.prog 416 #[.pointer (some ⟨h,0,none⟩),.int .i64 x] w fun e w'=>e=.returned (.tuple #[.int .i64 (Heap.sizeOf m lo hi x).1,.int .i64 (Heap.sizeOf m lo hi x).2])∧Keeps (fun _=>False) w w':=by
 have H:=h_ H0;have b0:=H0.lo0;have b1:=H0.lt;have b2:=H0.top;have b3:=H0.mem.le
 have HD:Hid (Heap.sizeOf m lo hi x=match Heap.blocks m lo hi with
 | none=>(0,-2052)
 | some l=>if Heap.find l x<0 then (0,-60) else ((l.getD (Heap.find l x).toNat ⟨0,0,false⟩).size-8,0)):=rfl
 clear H0;generalize Heap.sizeOf m lo hi x=r at HD ⊢;have hr:=HD.out;have hbl:=h_ (heap_blocks w h b bb m lo hi H.out);have hmem:=h_ (fun l (e:Heap.blocks m lo hi=some l)=>Heap.blocks_mem e)
 have hlen:=h_ (fun l (e:Heap.blocks m lo hi=some l)=>Heap.from_len m hi _ lo l b1 e)
 generalize Heap.blocks m lo hi=q at hr hbl hmem hlen;clear HD
 cases q with
 | none =>
  simp only at hr
  subst hr;unfold BlkPost at hbl
  go_enter Tryz.func416,Tryz.ntmps416
  go_wp2_with fail;refine hbl.out.mono ?_;rintro e w1 ⟨rfl,k1⟩;have K1:=h_ k1;clear k1;go_wp2_with fail;go_ret2
  exact ⟨rfl,K1.out⟩
 | some l =>
  simp only at hr
  have HR:=h_ hr;have hlm:=h_ (hmem.out l rfl);have hll:=hlen.out l rfl;have hl6:l.length≤1000000:=by omega
  clear hll hlen hr hmem;unfold BlkPost at hbl;have hF:=h_ fun a c w1 (o:OwnB w.heap.size w1 a c l)=>heap_find w.heap.size w1 a c l x o (fun u hu=>by have:=hlm.out u hu;omega) hl6
  have hfl:=Heap.findN_law x l 0;have hfd:Heap.findN x 0 l=Heap.find l x:=rfl;rw [hfd] at hfl;clear hfd
  rcases hfl with ⟨hf,_⟩ | ⟨p,u,s,hl,hf,hu1,hu2⟩
  · have hr:=HR.out
    rw [if_pos (by omega)] at hr
    subst hr;rw [hf] at hF;clear HR hf
    go_enter Tryz.func416,Tryz.ntmps416
    go_wp2_with fail;refine hbl.out.mono ?_;rintro e w1 ⟨a,c,rfl,o1,k1⟩;have K1:=h_ k1;have O1:=h_ o1;clear k1 o1 hbl;go_wp2_with fail;refine (hF.out _ _ _ O1.out).mono ?_;rintro e w2 ⟨rfl,k2⟩;have K2:=h_ (K1.out.trans k2);clear k2;go_wp2_with fail;go_ret2
    exact ⟨rfl,K2.out⟩
  · have hf':Heap.find l x=(p.length:Int):=by omega
    have hpl:p.length<l.length:=by rw [hl];simp
    have hr:=HR.out;rw [hf',if_neg (by omega),show ((p.length:Int)).toNat=p.length by omega,List.getD_eq_getElem?_getD,List.getElem?_eq_getElem hpl,Option.getD_some] at hr
    have hm:=hlm.out _ (List.getElem_mem hpl);obtain ⟨z,hz⟩:∃ z,z=l[p.length].size:=⟨_,rfl⟩;rw [← hz] at hr hm;have HZ:=h_ hz;rw [hf'] at hF;have hw:IntKind.i64.wrap (z-8)=z-8:=IntWalk.i64_in _ (by omega)
    have hin:(p.length:Int)<l.length:=by omega
    subst hr;have HL:=h_ hl;clear HR hf hf' hl hu1 hu2 hz hm;obtain ⟨k,hk⟩:∃ k,k=p.length:=⟨_,rfl⟩;have HK:=h_ hk;rw [← hk] at hF hin hpl;clear hk
    go_enter Tryz.func416,Tryz.ntmps416
    go_wp2_with fail;refine hbl.out.mono ?_;rintro e w1 ⟨a,c,rfl,o1,k1⟩;have K1:=h_ k1;have O1:=h_ o1;clear k1 hbl;go_wp2_with fail;refine (hF.out _ _ _ O1.out).mono ?_;rintro e w2 ⟨rfl,k2⟩;have K2:=h_ (K1.out.trans k2);obtain ⟨g,rfl,hc,t0,t1,t2⟩:=(o1.keeps k2 (fun _ _=>id)).at hpl
    have t1':w2.cell? ⟨g,k*3+1,none⟩=some (.int .i64 z):=by rw [HZ.out];rw [t1];congr 2;congr 1;simp only [HK.out]
    clear k2 o1 t0 t2 t1;go_wp2_with fail;go_ret2
    exact ⟨rfl,K2.out⟩
theorem Mem.text_le (m:Mem) (a n:Int):(m.text a n).1.length≤m.size:=by
 unfold Mem.text;split
 · rename_i h
   have:=(m.has_iff a n).1 h;simp only [bytesN_len]
   omega
 · simp
theorem free_size (m:Mem) (lo hi a:Int):(Heap.free m lo hi a).1.size=m.size:=by
 unfold Heap.free;split
 · rfl
 · split
   · rfl
   · exact heap_put_size _ _
theorem heap_resize (w:World) (h b bb:Nat) (m:Mem) (lo hi a n:Int) (H0:RHp w h b bb m lo hi) :
 Calls Tryz.prog 341 #[.pointer (some ⟨h,0,none⟩),.int .i64 a,.int .i64 n] w (AllocPost h b bb lo hi (Heap.resize m lo hi a n) w):=by
 have H:=h_ H0;have hs:=Heap.resize_eq m lo hi a n;generalize Heap.resize m lo hi a n=r at hs ⊢;have HSZ:=h_ (heap_size w h b bb m lo hi a H0);generalize Heap.sizeOf m lo hi a=q at hs HSZ;obtain ⟨old,e1⟩:=q;have HA:=h_ fun V (k:Keeps (fun _=>False) w V)=>heap_alloc V h b bb m lo hi n (H0.keeps k id id id)
 have hsz:=alloc_size m lo hi n;generalize Heap.alloc m lo hi n=u at hs HA hsz;obtain ⟨m1,p,e2⟩:=u;have b3:=H0.mem.le;have hle1:m1.size≤4194304:=by have:m1.size=m.size:=hsz;omega
 have HT:=h_ fun V (R:RHp V h b bb m1 lo hi)=>mem_text V b bb m1 a old R.mem
 have hl:=m1.text_le a old;simp only at hs HA HSZ HT
 generalize m1.text a old=t at hs HT hl;obtain ⟨t,e3⟩:=t;simp only at hs HT hl
 have HU:=h_ fun V (R:RHp V h b bb m1 lo hi)=>mem_setText V b bb m1 p t R.mem (by omega)
 have hsz2:(m1.setText p t).1.size=m1.size:=Mem.setText_size _ _ _;have HRW:=h_ fun V V' (R:RHp V h b bb m1 lo hi) m2 (e:m2.size=m1.size) (k:Keeps (fun j=>j=bb) V V') (hm:RMem V' b bb m2)=>R.with hm e k
 generalize m1.setText p t=m2 at hs HU hsz2;obtain ⟨m2,e4⟩:=m2;simp only at hs HU hsz2
 have HF:=h_ fun V (R:RHp V h b bb m2 lo hi)=>heap_free V h b bb m2 lo hi a R
 generalize Heap.free m2 lo hi a=f at hs HF;obtain ⟨m3,e5⟩:=f;simp only at hs HF
 have HS:=h_ hs;have HZ2:=h_ hsz2;clear hs hsz hsz2 hl hle1 b3 H0;by_cases h1:e1=0
 · subst h1
   by_cases h2:0≤n
   · have d2:decide (0≤n)=true:=decide_eq_true h2
     by_cases h3:n≤old
     · have d3:decide (n≤old)=true:=decide_eq_true h3
       have hs:=HS.out;rw [if_neg (by simp),if_pos ⟨h2,h3⟩] at hs
       subst hs;clear HS HA HT HU HF HRW HZ2 h2 h3
       go_enter Tryz.func341,Tryz.ntmps341
       go_wp2_with fail;refine HSZ.out.mono ?_;rintro e w1 ⟨rfl,k1⟩;have K1:=h_ k1;clear k1;go_wp2_with fail;go_ret2
       exact ⟨rfl,H.out.keeps K1.out id id id,K1.out.mono (fun _ _=>False.elim)⟩
     · have d3:decide (n≤old)=false:=decide_eq_false h3
       by_cases h4:e2=0
       · subst h4
         have hs:=HS.out;rw [if_neg (by simp),if_neg (fun e=>by omega),if_neg (by simp)] at hs
         subst hs;clear HS h3
         try clear h2
         go_enter Tryz.func341,Tryz.ntmps341
         go_wp2_with fail;refine HSZ.out.mono ?_;rintro e w1 ⟨rfl,k1⟩;have K1:=h_ k1;clear k1;go_wp2_with fail;refine (HA.out w1 K1.out).mono ?_;rintro e w2 ⟨rfl,r2,k2⟩;have R2:=h_ r2;have K2:=h_ ((K1.out.mono (fun _ _=>False.elim)).trans k2)
         have g2:=r2.c0;clear r2 k2;go_wp2_with fail;refine (HT.out w2 R2.out).mono ?_;rintro e w3 ⟨rfl,rfl⟩;go_wp2_with fail;refine (HU.out w2 R2.out).mono ?_;rintro e w3 ⟨rfl,r3,k3⟩;have R3:=h_ (HRW.out _ _ R2.out m2 HZ2.out k3 r3);have K3:=h_ (K2.out.trans k3);clear r3 k3;go_wp2_with fail;refine (HF.out w3 R3.out).mono ?_;rintro e w4 ⟨rfl,r4,k4⟩;have R4:=h_ r4;have K4:=h_ (K3.out.trans k4);clear r4 k4;go_wp2_with fail;go_ret2
         exact ⟨rfl,R4.out,K4.out⟩
       · have d4:(e2 != 0)=true:=by simp [h4]
         have hs:=HS.out;rw [if_neg (by simp),if_neg (fun e=>by omega),if_pos h4] at hs
         subst hs;clear HS HT HU HF HRW HZ2 h4 h3
         try clear h2
         go_enter Tryz.func341,Tryz.ntmps341
         go_wp2_with fail;refine HSZ.out.mono ?_;rintro e w1 ⟨rfl,k1⟩;have K1:=h_ k1;clear k1;go_wp2_with fail;refine (HA.out w1 K1.out).mono ?_;rintro e w2 ⟨rfl,r2,k2⟩;have R2:=h_ r2;have K2:=h_ ((K1.out.mono (fun _ _=>False.elim)).trans k2)
         clear r2 k2;go_wp2_with fail;go_ret2
         exact ⟨rfl,R2.out,K2.out⟩
   · have d2:decide (0≤n)=false:=decide_eq_false h2
     by_cases h4:e2=0
     · subst h4
       have hs:=HS.out;rw [if_neg (by simp),if_neg (fun e=>by omega),if_neg (by simp)] at hs
       subst hs;clear HS h2
       try clear h2
       go_enter Tryz.func341,Tryz.ntmps341
       go_wp2_with fail;refine HSZ.out.mono ?_;rintro e w1 ⟨rfl,k1⟩;have K1:=h_ k1;clear k1;go_wp2_with fail;refine (HA.out w1 K1.out).mono ?_;rintro e w2 ⟨rfl,r2,k2⟩;have R2:=h_ r2;have K2:=h_ ((K1.out.mono (fun _ _=>False.elim)).trans k2)
       have g2:=r2.c0;clear r2 k2;go_wp2_with fail;refine (HT.out w2 R2.out).mono ?_;rintro e w3 ⟨rfl,rfl⟩;go_wp2_with fail;refine (HU.out w2 R2.out).mono ?_;rintro e w3 ⟨rfl,r3,k3⟩;have R3:=h_ (HRW.out _ _ R2.out m2 HZ2.out k3 r3);have K3:=h_ (K2.out.trans k3);clear r3 k3;go_wp2_with fail;refine (HF.out w3 R3.out).mono ?_;rintro e w4 ⟨rfl,r4,k4⟩;have R4:=h_ r4;have K4:=h_ (K3.out.trans k4);clear r4 k4;go_wp2_with fail;go_ret2
       exact ⟨rfl,R4.out,K4.out⟩
     · have d4:(e2 != 0)=true:=by simp [h4]
       have hs:=HS.out;rw [if_neg (by simp),if_neg (fun e=>by omega),if_pos h4] at hs
       subst hs;clear HS HT HU HF HRW HZ2 h4 h2
       try clear h2
       go_enter Tryz.func341,Tryz.ntmps341
       go_wp2_with fail;refine HSZ.out.mono ?_;rintro e w1 ⟨rfl,k1⟩;have K1:=h_ k1;clear k1;go_wp2_with fail;refine (HA.out w1 K1.out).mono ?_;rintro e w2 ⟨rfl,r2,k2⟩;have R2:=h_ r2;have K2:=h_ ((K1.out.mono (fun _ _=>False.elim)).trans k2)
       clear r2 k2;go_wp2_with fail;go_ret2
       exact ⟨rfl,R2.out,K2.out⟩
 · have d1:(e1 != 0)=true:=by simp [h1]
   have hs:=HS.out;rw [if_pos h1] at hs;subst hs;clear HS HA HT HU HF HRW HZ2 h1
   go_enter Tryz.func341,Tryz.ntmps341
   go_wp2_with fail;refine HSZ.out.mono ?_;rintro e w1 ⟨rfl,k1⟩;have K1:=h_ k1;clear k1;go_wp2_with fail;go_ret2
   exact ⟨rfl,H.out.keeps K1.out id id id,K1.out.mono (fun _ _=>False.elim)⟩
end Go.Proofs.Shed
