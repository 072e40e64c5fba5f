/- Of CallsG: WObjB. No condition. -/
import Derived.Test.YthhfkhhhclmimaaGreatDoorM16
import Derived.Test.YthhfkhhhclmimaaGreatDoorM13
import Derived.Test.YthhfkhhhclmimaaGreatDoorM08
set_option linter.unusedVariables false
set_option linter.unusedSimpArgs false
set_option maxRecDepth 10000
set_option maxHeartbeats 4000000
namespace Go.Proofs.Shed
open Go Go.RowKit Go.Proofs.K
theorem keeps_below {w w':World} (h:Below w.heap.size w w'):Keeps (fun _=>False) w w':=⟨h.os,h.tape,h.output,h.size,fun k hk _=>h.block k hk⟩
theorem repeatL_one (v:UInt8) (n:Nat):Lib.repeatL [v] n=List.replicate n v:=by
 induction n with
 | zero=>rfl
 | succ n ih=>rw [List.replicate_succ,← ih];rfl
theorem str_repeat (w:World) (v:UInt8) (n:Nat) (hn:n≤1048576) :
 Calls Tryz.prog 425 #[.string ⟨#[v]⟩,.int .i64 n] w fun e w'=>e=.returned (.string ⟨(List.replicate n v).toArray⟩)∧Keeps (fun _=>False) w w':=by
 refine (Tryz.strings_Repeat ⟨#[v]⟩ n w (by omega) (by show 1*n≤_;omega)).mono ?_
 rintro e w' ⟨rfl,hb⟩;exact ⟨by rw [← repeatL_one],keeps_below hb⟩
theorem obj_make (w:World) (b bb:Nat) (m:Mem) (a c:Int) (h:RMem w b bb m) (hc0 : -9223372036854775808≤c) (hc1:c≤9223372036854775807) :
 Calls Tryz.prog 392 #[.pointer (some ⟨b,0,none⟩),.int .i64 a,.int .i64 c] w (SetPost b bb (Obj.make m a c) w):=by
 have H:=h_ h;clear h;have HP:=h_ (obj_size w b bb m c H.out hc0 hc1);have HC:=h_ fun w H=>mem_cell w b bb m a H
 have HD:Hid (Obj.make m a c=if (Obj.size m c).2≠0 then (m,(Obj.size m c).2)
 else if (m.cell a).2≠0 then (m,(m.cell a).2)
 else if (m.setText a (List.replicate (Obj.size m c).1.toNat 0)).2≠0 then m.setText a (List.replicate (Obj.size m c).1.toNat 0)
 else (m.setText a (List.replicate (Obj.size m c).1.toNat 0)).1.setCell a c):=rfl
 have hbd:(Obj.size m c).2=0→8≤(Obj.size m c).1∧(Obj.size m c).1≤1048576:=by
  unfold Obj.size;split
  · intro h;simp at h
  · split
    · intro h;simp at h
    · rename_i h1
      intro _;simp only
      omega
 generalize Obj.make m a c=r at HD ⊢;generalize Obj.size m c=q at HP HD hbd;obtain ⟨n,e⟩:=q;have hr:=HD.out;simp only at hr HP hbd
 clear HD;by_cases he:e=0
 · subst he
   have hb:=hbd rfl;obtain ⟨k,rfl⟩:∃ k:Nat,n=k:=⟨n.toNat,by omega⟩
   rw [if_neg (by simp),show ((k:Int)).toNat=k by omega] at hr
   have hTl:(List.replicate k (0:UInt8)).length≤9223372036854775807:=by rw [List.length_replicate];omega
   have HT:=h_ fun w H=>mem_setText w b bb m a (List.replicate k 0) H hTl
   have HRp:=h_ fun w=>str_repeat w 0 k (by omega)
   clear hbd hTl;generalize List.replicate k (0:UInt8)=z at HT HRp hr;generalize m.cell a=y at HC hr;obtain ⟨yn,ye⟩:=y;simp only at HC hr
   by_cases hy:ye=0
   · subst hy
     rw [if_neg (by simp)] at hr
     generalize m.setText a z=t at HT hr;obtain ⟨tm,te⟩:=t;simp only at hr
     by_cases ht:te=0
     · subst ht
       rw [if_neg (by simp)] at hr
       have HS:=h_ fun w H=>mem_setCell w b bb tm a c H
       generalize tm.setCell a c=u at HS hr;subst hr
       go_enter Tryz.func392,Tryz.ntmps392
       go_wp2_with fail;refine HP.out.mono ?_;rintro e w1 ⟨rfl,k1⟩;have K1:=h_ k1;clear k1;go_wp2_with fail;refine (HC.out _ (H.out.keeps K1.out id id)).mono ?_;rintro e w2 ⟨rfl,rfl⟩;go_wp2_with fail;refine (HRp.out _).mono ?_;rintro e w3 ⟨rfl,k3⟩;have K3:=h_ (K1.out.trans k3);clear k3;go_wp2_with fail;refine (HT.out _ (H.out.keeps K3.out id id)).mono ?_;rintro e w4 ⟨rfl,m4,k4⟩;have M4:=h_ m4;have K4:=h_ ((K3.out.mono (fun _ _=>False.elim)).trans k4)
       clear m4 k4;go_wp2_with fail;refine (HS.out _ M4.out).mono ?_;rintro e w5 ⟨rfl,m5,k5⟩;have M5:=h_ m5;have K5:=h_ (K4.out.trans k5);clear m5 k5;go_wp2_with fail;go_ret
       exact ⟨rfl,M5.out,K5.out⟩
     · rw [if_pos ht] at hr
       subst hr;have ht':(te != 0)=true:=by simp [ht]
       clear ht
       go_enter Tryz.func392,Tryz.ntmps392
       go_wp2_with fail;refine HP.out.mono ?_;rintro e w1 ⟨rfl,k1⟩;have K1:=h_ k1;clear k1;go_wp2_with fail;refine (HC.out _ (H.out.keeps K1.out id id)).mono ?_;rintro e w2 ⟨rfl,rfl⟩;go_wp2_with fail;refine (HRp.out _).mono ?_;rintro e w3 ⟨rfl,k3⟩;have K3:=h_ (K1.out.trans k3);clear k3;go_wp2_with fail;refine (HT.out _ (H.out.keeps K3.out id id)).mono ?_;rintro e w4 ⟨rfl,m4,k4⟩;have M4:=h_ m4;have K4:=h_ ((K3.out.mono (fun _ _=>False.elim)).trans k4)
       clear m4 k4;go_wp2_with fail;go_ret
       exact ⟨rfl,M4.out,K4.out⟩
   · rw [if_pos hy] at hr
     subst hr;have hy':(ye != 0)=true:=by simp [hy]
     clear hy
     go_enter Tryz.func392,Tryz.ntmps392
     go_wp2_with fail;refine HP.out.mono ?_;rintro e w1 ⟨rfl,k1⟩;have K1:=h_ k1;clear k1;go_wp2_with fail;refine (HC.out _ (H.out.keeps K1.out id id)).mono ?_;rintro e w2 ⟨rfl,rfl⟩;go_wp2_with fail;go_ret
     exact ⟨rfl,H.out.keeps K1.out id id,K1.out.mono (fun _ _=>False.elim)⟩
 · rw [if_pos he] at hr
   subst hr;have he':(e != 0)=true:=by simp [he]
   clear he hbd
   go_enter Tryz.func392,Tryz.ntmps392
   go_wp2_with fail;refine HP.out.mono ?_;rintro e w1 ⟨rfl,k1⟩;have K1:=h_ k1;clear k1;go_wp2_with fail;go_ret
   exact ⟨rfl,H.out.keeps K1.out id id,K1.out.mono (fun _ _=>False.elim)⟩
theorem alloc_size (m:Mem) (lo hi n:Int):(Heap.alloc m lo hi n).1.size=m.size:=by
 have hg:∀ b s,(Heap.give m b s).1.size=m.size:=by
  intro b s;unfold Heap.give;split
  · simp only;rw [heap_put_size,heap_put_size]
  · simp only;rw [heap_put_size]
 unfold Heap.alloc;split
 · rfl
 · split
   · rfl
   · split
     · rfl
     · exact hg _ _
theorem obj_make_size (m:Mem) (a c:Int):(Obj.make m a c).1.size=m.size:=by
 unfold Obj.make;split
 · rfl
 · split
   · rfl
   · split
     · exact m.setText_size _ _
     · rw [Mem.setCell_size];exact m.setText_size _ _
theorem obj_heap (w:World) (h b bb:Nat) (m:Mem) (lo hi c:Int) (H0:RHp w h b bb m lo hi) (hc0 : -9223372036854775808≤c) (hc1:c≤9223372036854775807) :
 Calls Tryz.prog 357 #[.pointer (some ⟨h,0,none⟩),.pointer (some ⟨b,0,none⟩),.int .i64 c] w (AllocPost h b bb lo hi (Obj.heap m lo hi c) w):=by
 have H:=h_ H0;clear H0;have HP:=h_ (obj_size w b bb m c H.out.mem hc0 hc1)
 have HD:Hid (Obj.heap m lo hi c=if (Obj.size m c).2≠0 then (m,0,(Obj.size m c).2)
 else if (Heap.alloc m lo hi (Obj.size m c).1).2.2≠0 then ((Heap.alloc m lo hi (Obj.size m c).1).1,0,(Heap.alloc m lo hi (Obj.size m c).1).2.2)
 else ((Obj.make (Heap.alloc m lo hi (Obj.size m c).1).1 (Heap.alloc m lo hi (Obj.size m c).1).2.1 c).1,(Heap.alloc m lo hi (Obj.size m c).1).2.1,(Obj.make (Heap.alloc m lo hi (Obj.size m c).1).1 (Heap.alloc m lo hi (Obj.size m c).1).2.1 c).2)):=rfl
 generalize Obj.heap m lo hi c=r at HD ⊢;generalize Obj.size m c=q at HP HD;obtain ⟨n,e⟩:=q;have hr:=HD.out;simp only at hr HP
 clear HD;by_cases he:e=0
 · subst he
   rw [if_neg (by simp)] at hr
   have HA:=h_ fun w H=>heap_alloc w h b bb m lo hi n H
   have hz:=alloc_size m lo hi n;generalize Heap.alloc m lo hi n=y at HA hr hz;obtain ⟨ym,ya,ye⟩:=y;simp only at hr hz
   have HZ:=h_ hz;clear hz;by_cases hy:ye=0
   · subst hy
     rw [if_neg (by simp)] at hr
     have HM:=h_ fun w H=>obj_make w b bb ym ya c H hc0 hc1
     have hz2:=obj_make_size ym ya c;generalize Obj.make ym ya c=z at HM hr hz2;have HZ2:=h_ hz2;subst hr;clear hz2
     go_enter Tryz.func357,Tryz.ntmps357
     go_wp2_with fail;refine HP.out.mono ?_;rintro e w1 ⟨rfl,k1⟩;have K1:=h_ k1;clear k1;go_wp2_with fail;refine (HA.out _ (H.out.keeps K1.out id id id)).mono ?_;rintro e w2 ⟨rfl,r2,k2⟩;have R2:=h_ r2;have K2:=h_ ((K1.out.mono (fun _ _=>False.elim)).trans k2)
     clear r2 k2;go_wp2_with fail;refine (HM.out _ R2.out.mem).mono ?_;rintro e w3 ⟨rfl,m3,k3⟩;have R3:=h_ (R2.out.with m3 HZ2.out k3);have K3:=h_ (K2.out.trans k3);clear m3 k3;go_wp2_with fail;go_ret2
     exact ⟨rfl,R3.out,K3.out⟩
   · rw [if_pos hy] at hr
     subst hr;have hy':(ye != 0)=true:=by simp [hy]
     clear hy
     go_enter Tryz.func357,Tryz.ntmps357
     go_wp2_with fail;refine HP.out.mono ?_;rintro e w1 ⟨rfl,k1⟩;have K1:=h_ k1;clear k1;go_wp2_with fail;refine (HA.out _ (H.out.keeps K1.out id id id)).mono ?_;rintro e w2 ⟨rfl,r2,k2⟩;have R2:=h_ r2;have K2:=h_ ((K1.out.mono (fun _ _=>False.elim)).trans k2)
     clear r2 k2;go_wp2_with fail;go_ret2
     exact ⟨rfl,R2.out,K2.out⟩
 · rw [if_pos he] at hr
   subst hr;have he':(e != 0)=true:=by simp [he]
   clear he
   go_enter Tryz.func357,Tryz.ntmps357
   go_wp2_with fail;refine HP.out.mono ?_;rintro e w1 ⟨rfl,k1⟩;have K1:=h_ k1;clear k1;go_wp2_with fail;go_ret2
   exact ⟨rfl,H.out.keeps K1.out id id id,K1.out.mono (fun _ _=>False.elim)⟩
end Go.Proofs.Shed
