/- Of CallsG: WSrcB. No condition. -/
import Derived.Test.YthhfkhhhclmimaaGreatDoorM21
import Derived.Test.YthhfkhhhclmimaaGreatDoorM08
set_option linter.unusedVariables false
set_option linter.unusedSimpArgs false
set_option maxRecDepth 10000
set_option maxHeartbeats 4000000
namespace Go.Proofs.Shed
open Go Go.RowKit Go.Proofs.K
namespace Src
def skipLine (s:List UInt8) (n:Nat):Nat:=if Lib.indexByte (s.drop n) 10<0 then s.length else n+(Lib.indexByte (s.drop n) 10).toNat+1
end Src
theorem indexByte_bd (l:List UInt8) (c:UInt8) : -1≤Lib.indexByte l c∧Lib.indexByte l c<l.length:=by
 induction l with
 | nil=>simp [Lib.indexByte]
 | cons b l ih =>
  unfold Lib.indexByte;rw [List.length_cons];split
  · omega
  · split
    · omega
    · omega
theorem src_rest (w:World) (q:Nat) (s:List UInt8) (n:Nat) (h:RSrc w q s n):Calls Tryz.prog 27 #[.pointer (some ⟨q,0,none⟩)] w fun e w'=>e=.returned (.string ⟨(s.drop n).toArray⟩)∧Keeps (fun _=>False) w w':=by
 have c0:w.cell? ⟨q,0,none⟩=some (.string ⟨s.toArray⟩):=cell_of h.head rfl;have c1:w.cell? ⟨q,1,none⟩=some (.int .i64 (n:Int)):=cell_of h.head rfl;have hle:=h.le;have hsm:=h.small;have hx:=str_extract s n s.length hle;rw [List.take_of_length_le (by simp)] at hx
 have b1:(n:Int)≤s.length:=by omega
 clear h
 go_enter Tryz.func27,Tryz.ntmps27
 go_wp2_with fail
 go_region
 all_goals
  go_wp2_with fail;go_ret
  exact ⟨rfl,Keeps.drew _ _⟩
theorem src_skip (w:World) (q:Nat) (s:List UInt8) (n:Nat) (h:RSrc w q s n):Calls Tryz.prog 87 #[.pointer (some ⟨q,0,none⟩)] w fun e w'=>e=.returned (.tuple #[])∧RSrc w' q s (Src.skipLine s n)∧Keeps (fun g=>g=q) w w':=by
 have HR:=h_ (src_rest w q s n h);have hb:=indexByte_bd (s.drop n) 10;rw [List.length_drop] at hb;have HI:=h_ fun V=>Tryz.strings_IndexByte ⟨(s.drop n).toArray⟩ 10 V
 have hle:=h.le;have hsm:=h.small;have hk:Src.skipLine s n=if Lib.indexByte (s.drop n) 10<0 then s.length else n+(Lib.indexByte (s.drop n) 10).toNat+1:=rfl
 have e10:Lib.indexByte (⟨(s.drop n).toArray⟩:ByteArray).data.toList (10:Int).toNat.toUInt8=Lib.indexByte (s.drop n) 10:=by simp
 rw [e10] at HI;generalize Lib.indexByte (s.drop n) 10=i at hb HI hk;generalize Src.skipLine s n=m at hk ⊢;clear e10;by_cases h1:i<0
 · have d1:decide (0≤i)=false:=decide_eq_false (by omega)
   rw [if_pos h1] at hk;subst hk;have H1:=h_ h;clear h h1
   go_enter Tryz.func87,Tryz.ntmps87
   go_wp2_with fail;refine HR.out.mono ?_;rintro e w1 ⟨rfl,k1⟩;have R1:=h_ (H1.out.keeps k1 id);have K1:=h_ k1;clear k1;go_wp2_with fail;refine (HI.out w1).mono ?_;rintro e w2 ⟨rfl,rfl⟩;have c0:w2.cell? ⟨q,0,none⟩=some (.string ⟨s.toArray⟩):=cell_of R1.out.head rfl;have c1:w2.cell? ⟨q,1,none⟩=some (.int .i64 (n:Int)):=cell_of R1.out.head rfl;have f1:=free_of (i:=1) R1.out.head;have R2:=h_ (R1.out.at_ s.length (Nat.le_refl _));have K2:=h_ ((K1.out.mono (fun _ _ e=>e.elim)).trans (Keeps.setCell (S:=fun g=>g=q) w2 ⟨q,1,none⟩ (.int .i64 (s.length:Int)) (fun _=>rfl)))
   go_wp2_with fail;go_end0
   exact ⟨rfl,R2.out,K2.out⟩
 · have d1:decide (0≤i)=true:=decide_eq_true (by omega)
   rw [if_neg h1] at hk;obtain ⟨k,rfl⟩:∃ k:Nat,i=k:=⟨i.toNat,by omega⟩
   have hk:m=n+k+1:=by rw [hk];simp
   have H1:=h_ h;have hm:m≤s.length:=by omega
   have HM:=h_ hm;have hmi:(n:Int)+((k:Int)+1)=(m:Int):=by omega
   have HMI:=h_ hk;have w1':wrap64 ((k:Int)+1)=(k:Int)+1:=IntWalk.wrap64_in _ (by omega)
   clear h h1 hk
   go_enter Tryz.func87,Tryz.ntmps87
   go_wp2_with fail;refine HR.out.mono ?_;rintro e w1 ⟨rfl,k1⟩;have R1:=h_ (H1.out.keeps k1 id);have K1:=h_ k1;clear k1;go_wp2_with fail;refine (HI.out w1).mono ?_;rintro e w2 ⟨rfl,rfl⟩;have c0:w2.cell? ⟨q,0,none⟩=some (.string ⟨s.toArray⟩):=cell_of R1.out.head rfl;have c1:w2.cell? ⟨q,1,none⟩=some (.int .i64 (n:Int)):=cell_of R1.out.head rfl;have f1:=free_of (i:=1) R1.out.head;have R2:=h_ (R1.out.at_ m HM.out);have K2:=h_ ((K1.out.mono (fun _ _ e=>e.elim)).trans (Keeps.setCell (S:=fun g=>g=q) w2 ⟨q,1,none⟩ (.int .i64 (m:Int)) (fun _=>rfl)))
   go_wp2_with fail;go_end0
   rw [show (n:Int)+(k:Int)+1=(m:Int) by have:=HMI.out;omega]
   exact ⟨rfl,R2.out,K2.out⟩
end Go.Proofs.Shed
