/- Of CallsG: WVmB, WVmB5. No condition. -/
import Derived.Test.YthhfkhhhclmimaaGreatDoorM25
import Derived.Test.YthhfkhhhclmimaaGreatDoorM12
import Derived.Test.YthhfkhhhclmimaaGreatDoorM29
set_option linter.unusedVariables false
set_option linter.unusedSimpArgs false
set_option maxRecDepth 10000
set_option maxHeartbeats 4000000
namespace Go.Proofs.Shed
open Go Go.RowKit Go.Proofs.K
def RCf (w:World) (g:Nat) (dict data ret heap slots:Int):Prop:=w.heap[g]?=some (.cells #[.int .i64 dict,.int .i64 data,.int .i64 ret,.int .i64 heap,.int .i64 slots] 119 (0,0))
theorem vm_new1 (w:World) (mb b bb:Nat) (c:Mc) (m:Mem) (fr dict data ret hz slots:Int) (x9 x8 x2 x11:Nat) (hc:RMc w mb c) (hm:RMem w b bb m) (h9:w.cell? ⟨x9,0,none⟩=some (.pointer (some ⟨b,0,none⟩))) (h8:w.cell? ⟨x8,0,none⟩=some (.int .i64 fr))
 (h2:RCf w x2 dict data ret hz slots) (h11:w.cell? ⟨x11,0,none⟩=some (.pointer (some ⟨mb,0,none⟩))) (f0:0≤fr) (f8:fr % 8=0) (z8:hz % 8=0) (z16:16≤hz) (hs:fr+hz≤m.size) (he:(Heap.put m ⟨fr,hz,false⟩).2=0)
 (n1:mb≠bb) (n2:mb≠b) (k9:x9≠bb) (k8:x8≠bb) (k2:x2≠bb) (k11:x11≠bb) (k9':x9≠mb) (k8':x8≠mb) (k2':x2≠mb) (k11':x11≠mb) :
 Calls Tryz.prog 122 #[.pointer (some ⟨x9,0,none⟩),.pointer (some ⟨x8,0,none⟩),.pointer (some ⟨x2,0,none⟩),.pointer (some ⟨x11,0,none⟩)] w fun e w'=>∃ hb,e=.returned (.int .i64 0)∧RMc w' mb { c with hp:=some hb }∧RHp w' hb b bb (Heap.put m ⟨fr,hz,false⟩).1 fr (fr+hz)∧w.heap.size≤hb∧Keeps (fun k=>k=mb∨k=bb) w w':=by
 have hle:=hm.le;have c3:w.cell? ⟨x2,3,none⟩=some (.int .i64 hz):=cell_of h2 rfl;have hw:IntKind.i64.wrap (fr+hz)=fr+hz:=IntWalk.i64_in _ (by omega)
 have HN:=h_ fun V R=>heap_new V b bb m fr (fr+hz) R f0 f8 (by omega) hs (by omega)
 rw [show fr+hz-fr=hz by omega] at HN
 generalize Heap.put m ⟨fr,hz,false⟩=r at HN he;obtain ⟨m2,e2⟩:=r;simp only at he
 subst he;have HM:=h_ hm;have HC:=h_ hc;have hlt:=lt_of_heap hc;have N:=h_ (And.intro n1 n2);have Ks:=h_ (And.intro (And.intro k9 k8) (And.intro k2 k11));have hb0:0≤fr+hz:=by omega
 have hb1:fr+hz≤4194304:=by omega
 clear hc hm h2 hs z8 f8 n1 n2 k9 k8 k2 k11
 go_enter Tryz.func122,Tryz.ntmps122
 go_wp2_with fail
 go_region_held3 (fun w'=>w'.cell? ⟨x11,0,none⟩=some (.pointer (some ⟨mb,0,none⟩))∧w'.cell? ⟨x9,0,none⟩=some (.pointer (some ⟨b,0,none⟩))∧w'.cell? ⟨x8,0,none⟩=some (.int .i64 fr)∧w'.cell? ⟨x2,3,none⟩=some (.int .i64 hz))
  (first | go_keep | exact ⟨(Keeps.setCell (S:=fun k=>k=mb) w4 _ _ (fun _=>rfl)).cell p11 k11',(Keeps.setCell (S:=fun k=>k=mb) w4 _ _ (fun _=>rfl)).cell p9 k9',(Keeps.setCell (S:=fun k=>k=mb) w4 _ _ (fun _=>rfl)).cell p8 k8',(Keeps.setCell (S:=fun k=>k=mb) w4 _ _ (fun _=>rfl)).cell p2 k2'⟩)
  (first
    | (go_at_call 123;refine (HN.out w.drew HM.out.drew).mono ?_;rintro e w4 ⟨hb,rfl,r4,l4,k4⟩;dsimp only
       have k4:=(Keeps.drew (fun k=>k=bb) w).trans k4
       have p11:=k4.cell h11 Ks.out.2.2;have p9:=k4.cell h9 Ks.out.1.1;have p8:=k4.cell h8 Ks.out.1.2;have p2:=k4.cell c3 Ks.out.2.1;have R:=HC.out.keeps k4 N.out.1;have y3:=cell_of (i:=3) R rfl
       have q3:=RMc.free R 3))
 have ks:Keeps (fun k=>k=mb) w4 (w4.setCell ⟨mb,3,none⟩ (.pointer (some ⟨hb,0,none⟩))):=Keeps.setCell _ _ _ (fun _=>rfl)
 have hbm:hb≠mb:=by have h:=l4;have h:w.heap.size≤hb:=h;omega
 have RF:=h_ (RMc.setHp R hb);have HF:=h_ (r4.keeps ks hbm (fun e=>N.out.2 e.symm) (fun e=>N.out.1 e.symm))
 have KF:=h_ ((k4.mono (T:=fun k=>k=mb∨k=bb) (fun _ _ e=>.inr e)).trans (ks.mono (fun _ _ e=>.inl e)))
 have LF:=h_ (show w.heap.size≤hb from l4)
 clear r4 ks l4 k4;go_wp2_with fail;go_ret
 first
  | exact ⟨hb,rfl,RF.out,HF.out,LF.out,KF.out⟩
  | exact ⟨rfl,hb,RF.out,HF.out,LF.out,KF.out⟩
theorem vm_new2 (w:World) (mb b bb:Nat) (c:Mc) (m:Mem) (fr dict data ret hz slots:Int) (x9 x8 x2 x11:Nat) (hc:RMc w mb c) (hm:RMem w b bb m) (h9:w.cell? ⟨x9,0,none⟩=some (.pointer (some ⟨b,0,none⟩))) (h8:w.cell? ⟨x8,0,none⟩=some (.int .i64 fr))
 (h2:RCf w x2 dict data ret hz slots) (h11:w.cell? ⟨x11,0,none⟩=some (.pointer (some ⟨mb,0,none⟩))) (f0:0≤fr) (f8:fr % 8=0) (z0:0≤data) (z1:data≤1048576) (hs:fr+data*8≤m.size) (k9':x9≠mb) (k8':x8≠mb) (k2':x2≠mb) (k11':x11≠mb) :
 Calls Tryz.prog 124 #[.pointer (some ⟨x9,0,none⟩),.pointer (some ⟨x8,0,none⟩),.pointer (some ⟨x2,0,none⟩),.pointer (some ⟨x11,0,none⟩)] w fun e w'=>∃ d,e=.returned (.int .i64 0)∧RMc w' mb { c with dk:=some d }∧RStk w' d b ⟨fr,data,0,-3,-4⟩∧w.heap.size≤d∧Keeps (fun k=>k=mb) w w':=by
 have c3:w.cell? ⟨x2,1,none⟩=some (.int .i64 data):=cell_of h2 rfl;have HN:=h_ fun V R=>stk_new V b bb m fr data (-3) (-4) R f0 f8 z0 z1 hs (by decide) (by decide)
 have HM:=h_ hm;have HC:=h_ hc;have hlt:=lt_of_heap hc;clear hc hm h2 hs f8
 go_enter Tryz.func124,Tryz.ntmps124
 go_wp2_with fail
 go_region_held3 (fun w'=>w'.cell? ⟨x11,0,none⟩=some (.pointer (some ⟨mb,0,none⟩))∧w'.cell? ⟨x9,0,none⟩=some (.pointer (some ⟨b,0,none⟩))∧w'.cell? ⟨x8,0,none⟩=some (.int .i64 fr)∧w'.cell? ⟨x2,1,none⟩=some (.int .i64 data))
  (first | go_keep | exact ⟨(Keeps.setCell (S:=fun k=>k=mb) w4 _ _ (fun _=>rfl)).cell p11 k11',(Keeps.setCell (S:=fun k=>k=mb) w4 _ _ (fun _=>rfl)).cell p9 k9',(Keeps.setCell (S:=fun k=>k=mb) w4 _ _ (fun _=>rfl)).cell p8 k8',(Keeps.setCell (S:=fun k=>k=mb) w4 _ _ (fun _=>rfl)).cell p2 k2'⟩)
  (first
    | (go_at_call 125;refine (HN.out w.drew HM.out.drew).mono ?_;rintro e w4 ⟨d,rfl,r4,l4,k4⟩;dsimp only
       have k4:=(kd_ w).trans k4;have p11:=k4.cell h11 id;have p9:=k4.cell h9 id;have p8:=k4.cell h8 id;have p2:=k4.cell c3 id;have R:=HC.out.keeps k4 id;have y3:=cell_of (i:=1) R rfl
       have q3:=RMc.free R 1))
 have ks:Keeps (fun k=>k=mb) w4 (w4.setCell ⟨mb,1,none⟩ (.pointer (some ⟨d,0,none⟩))):=Keeps.setCell _ _ _ (fun _=>rfl)
 have hbm:d≠mb:=by have h:=l4;have h:w.heap.size≤d:=h;omega
 have RF:=h_ (RMc.setDk R d);have HF:=h_ (r4.keeps ks hbm);have KF:=h_ ((k4.mono (T:=fun k=>k=mb) (fun _ _ e=>e.elim)).trans ks)
 have LF:=h_ (show w.heap.size≤d from l4)
 clear r4 ks l4 k4;go_wp2_with fail;go_ret
 exact ⟨d,rfl,RF.out,HF.out,LF.out,KF.out⟩
theorem vm_new3 (w:World) (mb b bb:Nat) (c:Mc) (m:Mem) (fr dict data ret hz slots:Int) (x9 x8 x2 x11:Nat) (hc:RMc w mb c) (hm:RMem w b bb m) (h9:w.cell? ⟨x9,0,none⟩=some (.pointer (some ⟨b,0,none⟩))) (h8:w.cell? ⟨x8,0,none⟩=some (.int .i64 fr))
 (h2:RCf w x2 dict data ret hz slots) (h11:w.cell? ⟨x11,0,none⟩=some (.pointer (some ⟨mb,0,none⟩))) (f0:0≤fr) (f8:fr % 8=0) (z0:0≤ret) (z1:ret≤1048576) (hs:fr+ret*8≤m.size) (k9':x9≠mb) (k8':x8≠mb) (k2':x2≠mb) (k11':x11≠mb) :
 Calls Tryz.prog 126 #[.pointer (some ⟨x9,0,none⟩),.pointer (some ⟨x8,0,none⟩),.pointer (some ⟨x2,0,none⟩),.pointer (some ⟨x11,0,none⟩)] w fun e w'=>∃ d,e=.returned (.int .i64 0)∧RMc w' mb { c with rk:=some d }∧RStk w' d b ⟨fr,ret,0,-5,-6⟩∧w.heap.size≤d∧Keeps (fun k=>k=mb) w w':=by
 have c3:w.cell? ⟨x2,2,none⟩=some (.int .i64 ret):=cell_of h2 rfl;have HN:=h_ fun V R=>stk_new V b bb m fr ret (-5) (-6) R f0 f8 z0 z1 hs (by decide) (by decide)
 have HM:=h_ hm;have HC:=h_ hc;have hlt:=lt_of_heap hc;clear hc hm h2 hs f8
 go_enter Tryz.func126,Tryz.ntmps126
 go_wp2_with fail
 go_region_held3 (fun w'=>w'.cell? ⟨x11,0,none⟩=some (.pointer (some ⟨mb,0,none⟩))∧w'.cell? ⟨x9,0,none⟩=some (.pointer (some ⟨b,0,none⟩))∧w'.cell? ⟨x8,0,none⟩=some (.int .i64 fr)∧w'.cell? ⟨x2,2,none⟩=some (.int .i64 ret))
  (first | go_keep | exact ⟨(Keeps.setCell (S:=fun k=>k=mb) w4 _ _ (fun _=>rfl)).cell p11 k11',(Keeps.setCell (S:=fun k=>k=mb) w4 _ _ (fun _=>rfl)).cell p9 k9',(Keeps.setCell (S:=fun k=>k=mb) w4 _ _ (fun _=>rfl)).cell p8 k8',(Keeps.setCell (S:=fun k=>k=mb) w4 _ _ (fun _=>rfl)).cell p2 k2'⟩)
  (first
    | (go_at_call 125;refine (HN.out w.drew HM.out.drew).mono ?_;rintro e w4 ⟨d,rfl,r4,l4,k4⟩;dsimp only
       have k4:=(kd_ w).trans k4;have p11:=k4.cell h11 id;have p9:=k4.cell h9 id;have p8:=k4.cell h8 id;have p2:=k4.cell c3 id;have R:=HC.out.keeps k4 id;have y3:=cell_of (i:=2) R rfl
       have q3:=RMc.free R 2))
 have ks:Keeps (fun k=>k=mb) w4 (w4.setCell ⟨mb,2,none⟩ (.pointer (some ⟨d,0,none⟩))):=Keeps.setCell _ _ _ (fun _=>rfl)
 have hbm:d≠mb:=by have h:=l4;have h:w.heap.size≤d:=h;omega
 have RF:=h_ (RMc.setRk R d);have HF:=h_ (r4.keeps ks hbm);have KF:=h_ ((k4.mono (T:=fun k=>k=mb) (fun _ _ e=>e.elim)).trans ks)
 have LF:=h_ (show w.heap.size≤d from l4)
 clear r4 ks l4 k4;go_wp2_with fail;go_ret
 exact ⟨d,rfl,RF.out,HF.out,LF.out,KF.out⟩
theorem vm_new4 (w:World) (mb b bb:Nat) (c:Mc) (m:Mem) (dict data ret hz slots:Int) (x9 x2 x11:Nat) (hc:RMc w mb c) (hm:RMem w b bb m) (h9:w.cell? ⟨x9,0,none⟩=some (.pointer (some ⟨b,0,none⟩)))
 (h2:RCf w x2 dict data ret hz slots) (h11:w.cell? ⟨x11,0,none⟩=some (.pointer (some ⟨mb,0,none⟩))) (z0:8≤dict) (hs:dict≤m.size) (k9':x9≠mb) (k2':x2≠mb) (k11':x11≠mb) :
 Calls Tryz.prog 127 #[.pointer (some ⟨x9,0,none⟩),.pointer (some ⟨x2,0,none⟩),.pointer (some ⟨x11,0,none⟩)] w fun e w'=>∃ d,e=.returned (.int .i64 0)∧RMc w' mb { c with sp:=some d }∧RSp w' d b bb ⟨m,8,dict,8⟩∧w.heap.size≤d∧Keeps (fun k=>k=mb) w w':=by
 have c0:w.cell? ⟨x2,0,none⟩=some (.int .i64 dict):=cell_of h2 rfl
 have hn:SpNewPost b bb m 8 dict=fun w e w'=>∃ s,e=.returned (.tuple #[.pointer (some ⟨s,0,none⟩),.int .i64 0])∧RSp w' s b bb ⟨m,8,dict,8⟩∧w.heap.size≤s∧Keeps (fun _=>False) w w':=by
  funext w e w'
  unfold SpNewPost Sp.newCode;rw [if_pos (by rw [if_neg (by omega)])]
 have HN:=h_ fun V R=>sp_new V b bb m 8 dict R
 rw [hn] at HN;have HM:=h_ hm;have HC:=h_ hc;have hlt:=lt_of_heap hc;have hbm:=hm.lt
 have hnb:mb≠b∧mb≠bb:=by
  refine ⟨fun e=>?_,fun e=>?_⟩
  · have h1:=hc;have h2:=hm.head;rw [e] at h1;unfold RMc at h1;rw [h2] at h1;simp at h1
  · have h1:=hc;have h2:=hm.rest;rw [e] at h1;unfold RMc at h1;rw [h2] at h1;simp at h1
 have hmn:(dict<8)=False:=by simp;omega
 have N:=h_ hnb;clear hc hm h2 hs hn hnb
 go_enter Tryz.func127,Tryz.ntmps127
 go_wp2_with fail
 go_region_held3 (fun w'=>w'.cell? ⟨x11,0,none⟩=some (.pointer (some ⟨mb,0,none⟩))∧w'.cell? ⟨x9,0,none⟩=some (.pointer (some ⟨b,0,none⟩))∧w'.cell? ⟨x2,0,none⟩=some (.int .i64 dict))
  (first | go_keep | exact ⟨(Keeps.setCell (S:=fun k=>k=mb) w4 _ _ (fun _=>rfl)).cell p11 k11',(Keeps.setCell (S:=fun k=>k=mb) w4 _ _ (fun _=>rfl)).cell p9 k9',(Keeps.setCell (S:=fun k=>k=mb) w4 _ _ (fun _=>rfl)).cell p2 k2'⟩)
  (first
    | (go_at_call 128;refine (HN.out w.drew HM.out.drew).mono ?_;rintro e w4 ⟨d,rfl,r4,l4,k4⟩;dsimp only
       have k4:=(kd_ w).trans k4;have p11:=k4.cell h11 id;have p9:=k4.cell h9 id;have p2:=k4.cell c0 id;have R:=HC.out.keeps k4 id;have y3:=cell_of (i:=0) R rfl
       have q3:=RMc.free R 0))
 have ks:Keeps (fun k=>k=mb) w4 (w4.setCell ⟨mb,0,none⟩ (.pointer (some ⟨d,0,none⟩))):=Keeps.setCell _ _ _ (fun _=>rfl)
 have hbm:d≠mb:=by have h:=l4;have h:w.heap.size≤d:=h;omega
 have RF:=h_ (RMc.setSp R d);have HF:=h_ (r4.keeps ks hbm (fun e=>N.out.1 e.symm) (fun e=>N.out.2 e.symm))
 have KF:=h_ ((k4.mono (T:=fun k=>k=mb) (fun _ _ e=>e.elim)).trans ks)
 have LF:=h_ (show w.heap.size≤d from l4)
 clear r4 ks l4 k4;go_wp2_with fail;go_ret
 exact ⟨d,rfl,RF.out,HF.out,LF.out,KF.out⟩
theorem vm_new5 (w:World) (mb s b bb:Nat) (c:Mc) (x y:Sp) (r:Int) (x11:Nat) (hc:RMc w mb c) (hs:c.sp=some s) (h:RSp w s b bb x) (hr:Class.root x=(y,r,0)) (h11:w.cell? ⟨x11,0,none⟩=some (.pointer (some ⟨mb,0,none⟩)))
 (n1:mb≠s) (n2:mb≠b) (n3:mb≠bb) (k11:x11≠s) (k11':x11≠bb) (k11'':x11≠mb) :
 Calls Tryz.prog 129 #[.pointer (some ⟨x11,0,none⟩)] w fun e w'=>e=.returned (.int .i64 0)∧RMc w' mb { c with root:=r }∧RSp w' s b bb y∧Keeps (fun k=>k=mb∨k=s∨k=bb) w w':=by
 have HN:=h_ (class_root w.drew s b bb x h.drew);rw [hr] at HN;obtain ⟨sp,dk,rk,hpp,nmb,ip,self,root,li,slots,fuel,out,inp,over,ba,ca,handler,does⟩:=c;simp only at hs
 subst hs;have c0:w.cell? ⟨mb,0,none⟩=some (.pointer (some ⟨s,0,none⟩)):=hc.c0;have HC:=h_ hc;have hlt:=lt_of_heap hc;have N:=h_ (And.intro n1 (And.intro n2 n3));have KK:=h_ (And.intro k11 k11');clear hc hr h n1 n2 n3 k11 k11'
 go_enter Tryz.func129,Tryz.ntmps129
 go_wp2_with fail
 go_region_held3 (fun w'=>w'.cell? ⟨x11,0,none⟩=some (.pointer (some ⟨mb,0,none⟩))∧w'.cell? ⟨mb,0,none⟩=some (.pointer (some ⟨s,0,none⟩)))
  (first | go_keep | exact ⟨(Keeps.setCell (S:=fun k=>k=mb) w4 _ _ (fun _=>rfl)).cell p11 k11'',(RMc.setRoot R r).c0⟩)
  (first
    | (go_at_call 130;refine HN.out.mono ?_;rintro e w4 ⟨rfl,r4,k4⟩;dsimp only
       have k4:=(Keeps.drew (fun k=>k=s∨k=bb) w).trans k4
       have p11:=k4.cell h11 (fun e=>by rcases e with e | e;exact KK.out.1 e;exact KK.out.2 e)
       have R:=HC.out.keeps k4 (fun e=>by rcases e with e | e;exact N.out.1 e;exact N.out.2.2 e)
       have y0:w4.cell? ⟨mb,0,none⟩=some (.pointer (some ⟨s,0,none⟩)):=R.c0;have y3:=cell_of (i:=7) R rfl
       have q3:=RMc.free R 7))
 all_goals
  have ks:Keeps (fun k=>k=mb) w4 (w4.setCell ⟨mb,7,none⟩ (.int .i64 r)):=Keeps.setCell _ _ _ (fun _=>rfl)
  have RF:=h_ (RMc.setRoot R r);have HF:=h_ (r4.keeps ks (fun e=>N.out.1 e.symm) (fun e=>N.out.2.1 e.symm) (fun e=>N.out.2.2 e.symm))
  have KF:=h_ ((k4.mono (T:=fun k=>k=mb∨k=s∨k=bb) (fun _ _ e=>.inr e)).trans (ks.mono (fun _ _ e=>.inl e)))
  clear r4 ks k4;go_wp2_with fail;go_ret
  exact ⟨rfl,RF.out,HF.out,KF.out⟩
end Go.Proofs.Shed
