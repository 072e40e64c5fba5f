/- Of CallsG: WHead. No condition. -/
import Derived.Test.YthhfkhhhclmimaaGreatDoorM05
import Derived.Test.YthhfkhhhclmimaaGreatDoorM23
import Derived.Test.YthhfkhhhclmimaaGreatDoorM07
set_option linter.unusedVariables false
set_option linter.unusedSimpArgs false
set_option maxRecDepth 10000
set_option maxHeartbeats 2000000
namespace Go.Proofs.Shed
open Go Go.RowKit Go.Proofs.K
theorem head_list (w:World) (s b bb:Nat) (x:Sp) (h:RSp w s b bb x) :
 Calls Tryz.prog 210 #[.pointer (some ⟨s,0,none⟩)] w (MkPost s b bb (x.list) w):=by
 have H:=h_ h;clear h
 have HD:Hid (x.list=if x.align.2≠0 then (x.align.1,0,x.align.2)
  else if (x.align.1.comma 0).2≠0 then ((x.align.1.comma 0).1,0,(x.align.1.comma 0).2)
  else ((x.align.1.comma 0).1,x.align.1.here,0)):=rfl
 generalize x.list=r at HD ⊢;have hal:=h_ (sp_align w s b bb x H.out);generalize x.align=q at hal HD;obtain ⟨y,e⟩:=q;simp only at HD
 go_enter Tryz.func210,Tryz.ntmps210
 go_wp2_with fail;refine hal.out.mono ?_;rintro e0 w1 ⟨rfl,s1,k1⟩;have S1:=h_ s1;have K1:=h_ k1;clear s1 k1;by_cases he:e=0
 · have hr:=HD.out
   rw [if_neg (by simpa using he)] at hr
   have he':(e != 0)=false:=by simp [he]
   have hc:=h_ (sp_comma w1 s b bb y 0 S1.out);generalize y.comma 0=q at hc hr;obtain ⟨z,e2⟩:=q;simp only at hr
   have HR:=h_ hr;clear hr HD he;go_wp2_with fail;refine (sp_here _ _ _ _ _ S1.out).mono ?_;rintro e0 w2 ⟨rfl,rfl⟩;go_wp2_with fail;refine hc.out.mono ?_;rintro e0 w2 ⟨rfl,s2,k2⟩;have S2:=h_ s2;have K2:=h_ (K1.out.trans k2);clear s2 k2;by_cases he2:e2=0
   · have hr:=HR.out
     rw [if_neg (by simpa using he2)] at hr
     have he2':(e2 != 0)=false:=by simp [he2]
     have HE:=h_ hr;clear hr he2;go_wp2_with fail;go_ret2
     exact ⟨by rw [HE.out];rfl,by rw [HE.out];exact S2.out,K2.out⟩
   · have hr:=HR.out
     rw [if_pos he2] at hr;have he2':(e2 != 0)=true:=by simp [he2]
     have HE:=h_ hr;clear hr he2;go_wp2_with fail;go_ret2
     exact ⟨by rw [HE.out];rfl,by rw [HE.out];exact S2.out,K2.out⟩
 · have hr:=HD.out
   rw [if_pos he] at hr;have he':(e != 0)=true:=by simp [he]
   have HE:=h_ hr;clear hr he HD;go_wp2_with fail;go_ret2
   exact ⟨by rw [HE.out];rfl,by rw [HE.out];exact S1.out,K1.out⟩
theorem head_cr1 (w:World) (s b bb:Nat) (x:Sp) (n:Int) (x0 x1:Nat) (h:RSp w s b bb x) (c0:w.cell? ⟨x0,0,none⟩=some (.pointer (some ⟨s,0,none⟩))) (c1:w.cell? ⟨x1,0,none⟩=some (.int .i64 n)) :
 Calls Tryz.prog 148 #[.pointer (some ⟨x0,0,none⟩),.pointer (some ⟨x1,0,none⟩)] w (SpPost s b bb (x.comma n) w):=by
 have H:=h_ (sp_comma w s b bb x n h);clear h
 go_enter Tryz.func148,Tryz.ntmps148
 go_wp2_with fail;refine H.out.mono ?_;rintro e w1 ⟨rfl,h1,k1⟩;have H1:=h_ h1;have K1:=h_ k1;clear h1 k1;go_wp2_with fail;go_ret
 exact ⟨rfl,H1.out,K1.out⟩
theorem head_cr2 (w:World) (s b bb:Nat) (x:Sp) (name:List UInt8) (fl:Int) (x0 x1 x2:Nat) (h:RSp w s b bb x) (c0:w.cell? ⟨x0,0,none⟩=some (.pointer (some ⟨s,0,none⟩))) (c1:w.cell? ⟨x1,0,none⟩=some (.string ⟨name.toArray⟩))
 (c2:w.cell? ⟨x2,0,none⟩=some (.int .i64 fl)) (hn:name.length≤31) (f0:0≤fl) (f1:fl≤255) :
 Calls Tryz.prog 149 #[.pointer (some ⟨x0,0,none⟩),.pointer (some ⟨x1,0,none⟩),.pointer (some ⟨x2,0,none⟩)] w (SpPost s b bb (x.comma (name.length+fl*256)) w):=by
 have H:=h_ (sp_comma w s b bb x (name.length+fl*256) h)
 have hw1:IntKind.i64.wrap (fl <<< 8)=fl*256:=by
  rw [Int.shiftLeft_eq];exact IntWalk.i64_in _ (by omega)
 have hw2:IntKind.i64.wrap ((name.length:Int)+fl*256)=(name.length:Int)+fl*256:=IntWalk.i64_in _ (by omega)
 clear h
 go_enter Tryz.func149,Tryz.ntmps149
 go_wp2_with fail;refine H.out.mono ?_;rintro e w1 ⟨rfl,h1,k1⟩;have H1:=h_ h1;have K1:=h_ k1;clear h1 k1;go_wp2_with fail;go_ret
 exact ⟨rfl,H1.out,K1.out⟩
def WdCells (g:Nat) (a xt fl:Int) (name:List UInt8) (w:World):Prop:=w.heap[g]?=some (.cells #[.int .i64 a,.int .i64 xt,.int .i64 fl,.string ⟨name.toArray⟩] 53 (0,0))
theorem head_cr3 (w:World) (s b bb:Nat) (x:Sp) (a xt fl:Int) (name:List UInt8) (x0 x1:Nat) (h:RSp w s b bb x) (c0:w.cell? ⟨x0,0,none⟩=some (.pointer (some ⟨s,0,none⟩))) (c1:WdCells x1 a xt fl name w) (hn:name.length≤31) :
 Calls Tryz.prog 150 #[.pointer (some ⟨x0,0,none⟩),.pointer (some ⟨x1,0,none⟩)] w (SpPost s b bb (x.chars name) w):=by
 have H:=h_ (sp_chars w s b bb x name (by omega) h)
 have c3:=cell_of (i:=3) c1 rfl;clear h c1
 go_enter Tryz.func150,Tryz.ntmps150
 go_wp2_with fail;refine H.out.mono ?_;rintro e w1 ⟨rfl,h1,k1⟩;have H1:=h_ h1;have K1:=h_ k1;clear h1 k1;go_wp2_with fail;go_ret
 exact ⟨rfl,H1.out,K1.out⟩
theorem head_cr4 (w:World) (s b bb:Nat) (x:Sp) (a xt fl n:Int) (name:List UInt8) (x0 x1 x2:Nat) (h:RSp w s b bb x) (c0:w.cell? ⟨x0,0,none⟩=some (.pointer (some ⟨s,0,none⟩))) (c1:WdCells x1 a xt fl name w)
 (c2:w.cell? ⟨x2,0,none⟩=some (.int .i64 n)) (n1:x1≠s) (n2:x1≠b) (n3:x1≠bb) (n4:x1≠x0) (n5:x1≠x2) :
 Calls Tryz.prog 152 #[.pointer (some ⟨x0,0,none⟩),.pointer (some ⟨x1,0,none⟩),.pointer (some ⟨x2,0,none⟩)] w fun e w'=>e=.returned (.int .i64 (x.comma n).2)∧RSp w' s b bb (x.comma n).1∧WdCells x1 a x.here fl name w'∧Keeps (fun k=>k=s∨k=bb∨k=x1) w w':=by
 have HH:=h_ (sp_here w s b bb x h);have F1:=free_of (i:=1) c1;have C1:=cell_of (i:=1) c1 rfl;have k0:Keeps (fun k=>k=x1) w (w.setCell ⟨x1,1,none⟩ (.int .i64 x.here)):=Keeps.setCell _ _ _ (fun _=>rfl)
 have H:=h_ (sp_comma (w.setCell ⟨x1,1,none⟩ (.int .i64 x.here)) s b bb x n (h.keeps k0 (fun e=>n1 e.symm) (fun e=>n2 e.symm) (fun e=>n3 e.symm)))
 have c0':=k0.cell c0 (fun e=>n4 e.symm)
 have c2':=k0.cell c2 (fun e=>n5 e.symm)
 have c1':=h_ (show WdCells x1 a x.here fl name (w.setCell ⟨x1,1,none⟩ (.int .i64 x.here)) from hset_same c1 _)
 have K0:=h_ k0;have N1:=h_ n1;have N3:=h_ n3;clear h k0 c1 n1 n2 n3 n4 n5
 go_enter Tryz.func152,Tryz.ntmps152
 go_wp2_with fail;refine HH.out.mono ?_;rintro e w1 ⟨rfl,rfl⟩;go_wp2_with fail;refine H.out.mono ?_;rintro e w1 ⟨rfl,h1,k1⟩;have H1:=h_ h1;have K1:=h_ k1;clear h1 k1;go_wp2_with fail;go_ret
 refine ⟨rfl,H1.out,K1.out.heap c1'.out (fun e=>by rcases e with e | e;exact N1.out e;exact N3.out e),(K0.out.mono (fun _ _ e=>.inr (.inr e))).trans (K1.out.mono (fun _ _ e=>by rcases e with e | e;exact .inl e;exact .inr (.inl e)))⟩
theorem head_cr5 (w:World) (s b bb:Nat) (x:Sp) (a xt fl l:Int) (name:List UInt8) (x0 x1 x2:Nat) (h:RSp w s b bb x) (c0:w.cell? ⟨x0,0,none⟩=some (.pointer (some ⟨s,0,none⟩))) (c2:WdCells x2 a xt fl name w)
 (c1:w.cell? ⟨x1,0,none⟩=some (.int .i64 l)) :
 Calls Tryz.prog 153 #[.pointer (some ⟨x0,0,none⟩),.pointer (some ⟨x1,0,none⟩),.pointer (some ⟨x2,0,none⟩)] w (SpPost s b bb (x.setCellAt l a) w):=by
 have H:=h_ h;have h0:=h.c0;have c2':=cell_of (i:=0) c2 rfl;have HS:=h_ (mem_setCell w.drew b bb x.mem l a h.mem.drew);clear h c2
 go_enter Tryz.func153,Tryz.ntmps153
 go_wp2_with fail
 go_still_tail 7,(by kernel_rfl)
 change wpList _ _ _ _ _ w.drew
 go_wp2_with fail;refine HS.out.mono ?_;rintro e w1 hp;obtain ⟨rfl,h1,h2⟩:=hp.drew;have HX:=h_ (H.out.withMem h1 (Mem.setCell_size _ _ _) h2);have HK:=h_ h2;clear h1 h2 hp;go_wp2_with fail;go_ret
 exact ⟨rfl,HX.out,HK.out.mono (fun _ _ e=>.inr e)⟩
end Go.Proofs.Shed
