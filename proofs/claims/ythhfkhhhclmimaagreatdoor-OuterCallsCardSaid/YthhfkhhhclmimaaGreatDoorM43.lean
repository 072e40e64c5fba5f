/- Of CallsG: WSrcC. No condition. -/
import Derived.Test.YthhfkhhhclmimaaGreatDoorM38
import Derived.Test.YthhfkhhhclmimaaGreatDoorM42
set_option linter.unusedVariables false
set_option linter.unusedSimpArgs false
set_option maxRecDepth 10000
set_option maxHeartbeats 4000000
namespace Go.Proofs.Shed
open Go Go.RowKit Go.Proofs.K
namespace Src
def line (s:List UInt8) (n:Nat):List UInt8:=(Scr.cutB (s.drop n) 10).1
def parse (s:List UInt8) (n:Nat) (c:UInt8):List UInt8 × Bool × Nat :=
 if Lib.indexByte (line s n) c<0 then (line s n,false,n+(line s n).length)
 else ((line s n).take (Lib.indexByte (line s n) c).toNat,true,n+(Lib.indexByte (line s n) c).toNat+1)
theorem line_len (s:List UInt8) (n:Nat) (h:n≤s.length):(line s n).length+n≤s.length:=by
 have:∀ l:List UInt8,(Scr.cutB l 10).1.length≤l.length:=by
  intro l
  induction l with
  | nil=>simp [Scr.cutB]
  | cons x l ih =>
   unfold Scr.cutB;split
   · simp
   · simp only [List.length_cons];omega
 have:=this (s.drop n);rw [List.length_drop] at this;unfold line;omega
end Src
theorem str_cut10 (s:List UInt8) (w:World) (m:Int) (hm:w.cell? ⟨1,0,none⟩=some (.int .i64 m)) (hs:s.length≤1000000000) :
 Calls Tryz.prog 109 #[.string ⟨s.toArray⟩,.string ⟨#[10]⟩] w fun e w'=>e=.returned (.tuple #[.string ⟨(Scr.cutB s 10).1.toArray⟩,.string ⟨(Scr.cutB s 10).2.1.toArray⟩,.bool (Scr.cutB s 10).2.2])∧Keeps (fun _=>False) w w':=by
 refine (Tryz.strings_Cut ⟨s.toArray⟩ ⟨#[10]⟩ m w (by show s.toArray.size<_;simp;omega) hm).mono ?_
 rintro e w' ⟨rfl,n,rfl⟩;rw [show (⟨s.toArray⟩:ByteArray).data.toList=s from rfl,show (⟨#[10]⟩:ByteArray).data.toList=[10] from rfl,Scr.lib_cut]
 exact ⟨rfl,Keeps.drewN _ _ _⟩
theorem src_parse (w:World) (q:Nat) (s:List UInt8) (n:Nat) (c:UInt8) (mx:Int) (h:RSrc w q s n) (hm:w.cell? ⟨1,0,none⟩=some (.int .i64 mx)) (hs:s.length≤1000000000) :
 Calls Tryz.prog 243 #[.pointer (some ⟨q,0,none⟩),.int .u8 (c.toNat:Int)] w fun e w'=>e=.returned (.tuple #[.string ⟨(Src.parse s n c).1.toArray⟩,.bool (Src.parse s n c).2.1])∧RSrc w' q s (Src.parse s n c).2.2∧Keeps (fun g=>g=q) w w':=by
 have HR:=h_ (src_rest w q s n h);have hle:=h.le;have HC:=h_ fun V (k:Keeps (fun _=>False) w V)=>str_cut10 (s.drop n) V mx (k.cell hm id) (by rw [List.length_drop];omega)
 have hll:=Src.line_len s n hle;have hln:(Scr.cutB (s.drop n) 10).1=Src.line s n:=rfl
 have hp:Src.parse s n c=if Lib.indexByte (Src.line s n) c<0 then (Src.line s n,false,n+(Src.line s n).length)
  else ((Src.line s n).take (Lib.indexByte (Src.line s n) c).toNat,true,n+(Lib.indexByte (Src.line s n) c).toNat+1):=rfl
 generalize Src.parse s n c=P at hp ⊢;generalize Scr.cutB (s.drop n) 10=Q at HC hln;obtain ⟨l1,l2,ok⟩:=Q;simp only at HC hln
 rw [← hln] at hp hll;clear hln;have hb:=indexByte_bd l1 c;have HI:=h_ fun V=>Tryz.strings_IndexByte ⟨l1.toArray⟩ (c.toNat:Int) V
 have e10:Lib.indexByte (⟨l1.toArray⟩:ByteArray).data.toList ((c.toNat:Int)).toNat.toUInt8=Lib.indexByte l1 c:=by simp
 rw [e10] at HI;generalize Lib.indexByte l1 c=i at hb HI hp;have H1:=h_ h;clear e10 hm h;by_cases h1:i<0
 · have d1:decide (i<0)=true:=decide_eq_true h1
   rw [if_pos h1] at hp;subst hp;obtain ⟨m,hmm⟩:∃ m:Nat,m=n+l1.length:=⟨_,rfl⟩;have HM:=h_ hmm;simp only
   rw [← hmm];have HL:=h_ (show m≤s.length by omega)
   clear h1 hmm
   go_enter Tryz.func243,Tryz.ntmps243
   go_wp2_with fail;refine HR.out.mono ?_;rintro e w1 ⟨rfl,k1⟩;have R1:=h_ (H1.out.keeps k1 id);have K1:=h_ k1;clear k1;go_wp2_with fail;refine (HC.out w1 K1.out).mono ?_;rintro e w2 ⟨rfl,k2⟩;have R2:=h_ (R1.out.keeps k2 id);have K2:=h_ (K1.out.trans k2);clear k2;go_wp2_with fail;refine (HI.out w2).mono ?_;rintro e w3 ⟨rfl,rfl⟩;have c1:w3.cell? ⟨q,1,none⟩=some (.int .i64 (n:Int)):=cell_of R2.out.head rfl;have f1:=free_of (i:=1) R2.out.head;have R3:=h_ (R2.out.at_ m HL.out);have K3:=h_ ((K2.out.mono (fun _ _ e=>e.elim)).trans (Keeps.setCell (S:=fun g=>g=q) w3 ⟨q,1,none⟩ (.int .i64 (m:Int)) (fun _=>rfl)))
   go_wp2_with fail;go_ret2
   rw [show (n:Int)+(l1.length:Int)=(m:Int) by have:=HM.out;omega]
   exact ⟨rfl,R3.out,K3.out⟩
 · have d1:decide (i<0)=false:=decide_eq_false h1
   rw [if_neg h1] at hp;obtain ⟨k,rfl⟩:∃ k:Nat,i=k:=⟨i.toNat,by omega⟩
   have hp:P=(l1.take k,true,n+k+1):=by rw [hp];simp
   subst hp;obtain ⟨m,hmm⟩:∃ m:Nat,m=n+k+1:=⟨_,rfl⟩;have HM:=h_ hmm;simp only
   rw [← hmm];have HL:=h_ (show m≤s.length by omega)
   have hx:=str_extract l1 0 k (Nat.zero_le _);rw [List.drop_zero,Nat.sub_zero] at hx;have hkl:(k:Int)≤l1.length:=by omega
   clear h1 hmm
   go_enter Tryz.func243,Tryz.ntmps243
   go_wp2_with fail;refine HR.out.mono ?_;rintro e w1 ⟨rfl,k1⟩;have R1:=h_ (H1.out.keeps k1 id);have K1:=h_ k1;clear k1;go_wp2_with fail;refine (HC.out w1 K1.out).mono ?_;rintro e w2 ⟨rfl,k2⟩;have R2:=h_ (R1.out.keeps k2 id);have K2:=h_ (K1.out.trans k2);clear k2;go_wp2_with fail;refine (HI.out w2).mono ?_;rintro e w3 ⟨rfl,rfl⟩;have c1:w3.cell? ⟨q,1,none⟩=some (.int .i64 (n:Int)):=cell_of R2.out.head rfl;have f1:=free_of (i:=1) R2.out.head;have R3:=h_ (R2.out.at_ m HL.out);have K3:=h_ ((K2.out.mono (fun _ _ e=>e.elim)).trans (Keeps.setCell (S:=fun g=>g=q) w3 ⟨q,1,none⟩ (.int .i64 (m:Int)) (fun _=>rfl)))
   go_wp2_with fail;go_ret2
   rw [show (n:Int)+((k:Int)+1)=(m:Int) by have:=HM.out;omega]
   exact ⟨rfl,R3.out,K3.out⟩
end Go.Proofs.Shed
