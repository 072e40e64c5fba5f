/- Of CallsG: WFvH, WFvI, FvR, WFv0. No condition. -/
import Derived.Test.YthhfkhhhclmimaaGreatDoorM32
set_option linter.unusedVariables false
set_option linter.unusedSimpArgs false
set_option maxRecDepth 10000
set_option maxHeartbeats 4000000
namespace Go.Proofs.Shed
open Go Go.RowKit Go.Proofs.K Go.Proofs.Cod
section
variable (K:Bk) (w:World) (v:VM)
theorem rpush1m (n:Int) (t:TypeId) (h:RFv w K v) (m:Nat) (hm:w.heap.size=m):Calls Tryz.prog 80 #[.pointer (some ⟨K.rb,0,none⟩),.slice (some ⟨m,0,none⟩) 1 1] (w.alloc (.cells #[.int .i64 n] t)) (PV K w (v.rpush [n])):=by subst hm;exact fv_rpush1p K w v n t h
theorem VM.loop_eq (n:Int):v.loop n=if v.inline.2.2≠0 then (v.inline.1,v.inline.2.2) else
 if (Stk.at_ v.inline.1.x.mem v.inline.1.r 1).2≠0 then (v.inline.1,(Stk.at_ v.inline.1.x.mem v.inline.1.r 1).2) else
 if VM.crosses (wrap64 (v.inline.1.rpop.2.1-(Stk.at_ v.inline.1.x.mem v.inline.1.r 1).1)) (wrap64 (wrap64 (v.inline.1.rpop.2.1-(Stk.at_ v.inline.1.x.mem v.inline.1.r 1).1)+n)) n then ((v.inline.1.rpop.1.rpop).1,0)
 else { v.inline.1.rpop.1 with ip:=v.inline.2.1 }.rpush [wrap64 (v.inline.1.rpop.2.1+n)]:=rfl
theorem fv_loop (n:Int) (h:RFv w K v):Calls Tryz.prog 303 #[.pointer (some ⟨K.mb,0,none⟩),.int .i64 n] w (PV K w (v.loop n)):=by
 have HP:=h_ (fv_inline K w v h);have hs:=VM.loop_eq v n;generalize v.loop n=Q at hs ⊢;generalize v.inline=q at hs HP;obtain ⟨v1,n1,e1⟩:=q;simp only at hs
 have HA:=h_ (fun V (hV:RFv V K v1)=>fv_rat K V v1 1 hV)
 generalize Stk.at_ v1.x.mem v1.r 1=a at hs HA;obtain ⟨l,e2⟩:=a;have HR:=h_ (fun V (hV:RFv V K v1)=>fv_rpop K V v1 hV)
 generalize v1.rpop=p at hs HR;obtain ⟨v2,i,e3⟩:=p;simp only at hs HA HR
 have HS:=h_ hs;clear hs;have R0:=h_ h;have K0:=h_ (Keeps.refl K.foot w);clear h;by_cases h1:e1=0
 · subst h1
   by_cases h2:e2=0
   · subst h2
     by_cases h3:Go.bits .and .i64 (Go.bits .xor .i64 (wrap64 (i-l)) (wrap64 (wrap64 (i-l)+n))) (Go.bits .xor .i64 (wrap64 (i-l)) n)<0
     · have hs:=HS.out
       rw [if_neg (by simp),if_neg (by simp),if_pos (by unfold VM.crosses;exact decide_eq_true h3)] at hs
       subst hs;have d3:decide (Go.bits .and .i64 (Go.bits .xor .i64 (wrap64 (i-l)) (wrap64 (wrap64 (i-l)+n))) (Go.bits .xor .i64 (wrap64 (i-l)) n)<0)=true:=decide_eq_true h3;clear HS h3;have HR2:=h_ (fun V (hV:RFv V K v2)=>fv_rpop K V v2 hV)
       generalize v2.rpop=p at HR2 ⊢;obtain ⟨v3,i3,e4⟩:=p
       go_enter Tryz.func303,Tryz.ntmps303
       go_wp2_with fail;refine (HP.out).mono ?_;rintro e w1 ⟨rfl,r1,k1⟩;have R1:=h_ r1;have K1:=h_ (K0.out.trans k1);clear r1 k1
       skip
       have c2:=R1.out.m2;go_wp2_with fail;refine (HA.out w1 R1.out).mono ?_;rintro e w2 ⟨rfl,r2,k2⟩;have R2:=h_ r2;have K2:=h_ (K1.out.trans k2);clear r2 k2
       try clear c2
       have c2:=R2.out.m2;go_wp2_with fail;refine (HR.out w2 R2.out).mono ?_;rintro e w3 ⟨rfl,r3,k3⟩;have R3:=h_ r3;have K3:=h_ (K2.out.trans k3);clear r3 k3
       try clear c2
       have c2:=R3.out.m2;go_wp2_with fail;refine (HR2.out w3 R3.out).mono ?_;rintro e w4 ⟨rfl,r4,k4⟩;have R4:=h_ r4;have K4:=h_ (K3.out.trans k4);clear r4 k4
       try clear c2
       go_wp2_with fail;go_ret
       exact ⟨rfl,R4.out,K4.out⟩
     · have hs:=HS.out
       rw [if_neg (by simp),if_neg (by simp),if_neg (by unfold VM.crosses;simpa using h3)] at hs
       subst hs;have d3:decide (Go.bits .and .i64 (Go.bits .xor .i64 (wrap64 (i-l)) (wrap64 (wrap64 (i-l)+n))) (Go.bits .xor .i64 (wrap64 (i-l)) n)<0)=false:=decide_eq_false h3;clear HS h3;have HPU:=h_ (fun V (hV:RFv V K { v2 with ip:=n1 })=>rpush1m K V { v2 with ip:=n1 } (wrap64 (i+n)) 2 hV)
       go_enter Tryz.func303,Tryz.ntmps303
       go_wp2_with fail;refine (HP.out).mono ?_;rintro e w1 ⟨rfl,r1,k1⟩;have R1:=h_ r1;have K1:=h_ (K0.out.trans k1);clear r1 k1
       try clear c2
       have c2:=R1.out.m2;go_wp2_with fail;refine (HA.out w1 R1.out).mono ?_;rintro e w2 ⟨rfl,r2,k2⟩;have R2:=h_ r2;have K2:=h_ (K1.out.trans k2);clear r2 k2
       try clear c2
       have c2:=R2.out.m2;go_wp2_with fail;refine (HR.out w2 R2.out).mono ?_;rintro e w3 ⟨rfl,r3,k3⟩;have R3:=h_ r3;have K3:=h_ (K2.out.trans k3);clear r3 k3
       try clear c2
       have c2:=R3.out.m2;have c5:=R3.out.m5;have f5:=R3.out.free 5;have R4:=h_ (R3.out.setIp n1);have K4:=h_ (K3.out.trans (foot_mb K (Keeps.setCell w3 ⟨K.mb,5,none⟩ (.int .i64 n1) (fun _=>rfl))))
       go_wp2_with fail;refine (HPU.out _ R4.out w3.heap.size (by simp)).mono ?_
       rintro e w5 ⟨rfl,r5,k5⟩;have R5:=h_ r5;have K5:=h_ (K4.out.trans k5);clear r5 k5
       try clear c2;try clear c5
       go_wp2_with fail;go_ret
       exact ⟨rfl,R5.out,K5.out⟩
   · have hs:=HS.out
     rw [if_neg (by simp),if_pos h2] at hs
     subst hs;have d2:(e2 != 0)=true:=by simp [h2]
     clear HS h2 HR
     go_enter Tryz.func303,Tryz.ntmps303
     go_wp2_with fail;refine (HP.out).mono ?_;rintro e w1 ⟨rfl,r1,k1⟩;have R1:=h_ r1;have K1:=h_ (K0.out.trans k1);clear r1 k1
     try clear c2;try clear c5
     have c2:=R1.out.m2;go_wp2_with fail;refine (HA.out w1 R1.out).mono ?_;rintro e w2 ⟨rfl,r2,k2⟩;have R2:=h_ r2;have K2:=h_ (K1.out.trans k2);clear r2 k2
     try clear c2;try clear c5
     go_wp2_with fail;go_ret
     exact ⟨rfl,R2.out,K2.out⟩
 · have hs:=HS.out
   rw [if_pos h1] at hs;subst hs;have d1:(e1 != 0)=true:=by simp [h1]
   clear HS h1 HR HA
   go_enter Tryz.func303,Tryz.ntmps303
   go_wp2_with fail;refine (HP.out).mono ?_;rintro e w1 ⟨rfl,r1,k1⟩;have R1:=h_ r1;have K1:=h_ (K0.out.trans k1);clear r1 k1
   try clear c2;try clear c5
   go_wp2_with fail;go_ret
   exact ⟨rfl,R1.out,K1.out⟩
end
theorem plain_loop:PlainOk 302 (fun v=>v.loop 1):=by
 refine ⟨fun args w=>Tryz.call302 args w,?_⟩
 intro K w v h;have HP:=h_ (fv_loop K w v 1 h);have R0:=h_ h;have K0:=h_ (Keeps.refl K.foot w);clear h;generalize v.loop 1=q at HP ⊢
 go_enter Tryz.func302,Tryz.ntmps302
 go_wp2_with fail;refine (HP.out).mono ?_;rintro e w1 ⟨rfl,r1,k1⟩;have R1:=h_ r1;have K1:=h_ (K0.out.trans k1);clear r1 k1
 skip
 go_wp2_with fail;go_ret
 exact ⟨rfl,R1.out,K1.out⟩
theorem do_ploop (D:Int):DoOk D 1 304 (VM.one1 fun v n=>v.loop n):=by
 refine ⟨fun args w=>Tryz.call304 args w,?_⟩
 intro K w v la c L h hd hN hl hb;obtain ⟨x,rfl⟩:∃ x,L=[x]:=List.length_eq_one_iff.1 hl;have q0:w.cell? ⟨la,0,none⟩=some (.int .i64 x):=hN.cell (i:=0) (by simp)
 have hx:Sixty x:=hb x (by simp)
 have HNF:=h_ (hN.nf h);have HNN:=h_ hN;clear hN hl hb;have R0:=h_ h;have K0:=h_ (Keeps.refl K.foot w);have HP:=h_ (fv_loop K w v x h);clear h hd;unfold VM.one1;simp only [List.getD_cons_zero]
 generalize v.loop x=q at HP ⊢
 go_enter Tryz.func304,Tryz.ntmps304
 go_wp2_with fail;refine (HP.out).mono ?_;rintro e w1 ⟨rfl,r1,k1⟩;have R1:=h_ r1;have K1:=h_ (K0.out.trans k1);clear r1 k1
 skip
 go_wp2_with fail;go_ret
 exact ⟨rfl,R1.out,K1.out⟩
theorem mem_byte (w:World) (b bb:Nat) (m:Mem) (a:Int) (h:RMem w b bb m) :
 Calls Tryz.prog 326 #[.pointer (some ⟨b,0,none⟩),.int .i64 a] w fun e w'=>e=.returned (.tuple #[.int .i64 (m.byteAt a).1,.int .i64 (m.byteAt a).2])∧w=w':=by
 have H:=h_ h;have hle:=h.le;have h0:=h.cell;have hby:=fun i hi=>h.byte (i:=i) hi
 clear h;have HD:Hid (m.byteAt a=if m.has a 1 then ((m.byte a.toNat:Int),0) else (0,-9)):=rfl
 have hc:=fun w H=>mem_has w b bb m a 1 H
 have HI:=h_ (m.has_iff a 1);generalize m.has a 1=q at hc HI HD;have HC:=h_ hc;clear hc;generalize m.byteAt a=r at HD ⊢
 cases q with
 | false =>
  have hr:r=(0,-9):=HD.out;subst hr;clear HD hby
  go_enter Tryz.func326,Tryz.ntmps326
  go_wp2_with fail;refine (HC.out _ H.out).mono ?_;rintro e w1 ⟨rfl,rfl⟩;go_wp2_with fail;go_ret2
  exact ⟨rfl,rfl⟩
 | true =>
  have ha:=HI.out.1 rfl;obtain ⟨k,rfl⟩:∃ k:Nat,a=k:=⟨a.toNat,by omega⟩
  have hr:r=((m.byte k:Int),0):=HD.out;subst hr;have c1:=hby k (by omega)
  have b1:(k:Int)<m.size:=by omega
  have b2:(0:Int)≤k:=by omega
  have y1:IntKind.i64.wrap (m.byte k:Int)=(m.byte k:Int):=IntWalk.i64_in _ (by have:=m.byte_lt k;omega)
  clear HD hby ha
  go_enter Tryz.func326,Tryz.ntmps326
  go_wp2_with fail;refine (HC.out _ H.out).mono ?_;rintro e w1 ⟨rfl,rfl⟩;go_wp2_with fail;go_ret2
  exact ⟨rfl,rfl⟩
theorem read_cell:ReadOk 324 (fun v a=>v.x.mem.cell a):=by
 refine ⟨fun args w=>Tryz.call324 args w,?_⟩
 intro K w v a h ha;have HP:=h_ (mem_cell w K.b K.bb v.x.mem a h.vm.sp.mem);generalize v.x.mem.cell a=q at HP ⊢;obtain ⟨n,e⟩:=q;have R0:=h_ h;have K0:=h_ (Keeps.refl K.foot w);have c0:=R0.out.m0;have cs:=R0.out.ms;clear h
 go_enter Tryz.func324,Tryz.ntmps324
 go_wp2_with fail;refine (HP.out).mono ?_;rintro e w' ⟨rfl,rfl⟩;go_wp2_with fail;go_ret2
 exact ⟨rfl,Keeps.refl _ _⟩
theorem read_byte:ReadOk 325 (fun v a=>v.x.mem.byteAt a):=by
 refine ⟨fun args w=>Tryz.call325 args w,?_⟩
 intro K w v a h ha;have HP:=h_ (mem_byte w K.b K.bb v.x.mem a h.vm.sp.mem);generalize v.x.mem.byteAt a=q at HP ⊢;obtain ⟨n,e⟩:=q;have R0:=h_ h;have K0:=h_ (Keeps.refl K.foot w);have c0:=R0.out.m0;have cs:=R0.out.ms;clear h
 go_enter Tryz.func325,Tryz.ntmps325
 go_wp2_with fail;refine (HP.out).mono ?_;rintro e w' ⟨rfl,rfl⟩;go_wp2_with fail;go_ret2
 exact ⟨rfl,Keeps.refl _ _⟩
def PVb (K:Bk) (w:World) (q:VM × Int) (e:Ending) (w':World):Prop:=e=.returned (.int .i64 q.2)∧RFv w' K q.1∧Keeps (fun g=>g=K.bb) w w'
def PVs (K:Bk) (w:World) (q:VM × Int) (e:Ending) (w':World):Prop:=e=.returned (.int .i64 q.2)∧RFv w' K q.1∧Keeps (fun g=>g=K.s∨g=K.bb) w w'
section
variable (K:Bk) (w:World) (v:VM)
theorem fv_setCellb (a n:Int) (h:RFv w K v):Calls Tryz.prog 85 #[.pointer (some ⟨K.b,0,none⟩),.int .i64 a,.int .i64 n] w (PVb K w (v.setCell a n)) :=
 (mem_setCell w K.b K.bb v.x.mem a n h.vm.sp.mem).mono fun _ _ ⟨he,hm,k⟩=>⟨he,h.withMem k hm (Mem.setCell_size _ _ _),k⟩
theorem fv_setByteb (a n:Int) (h:RFv w K v):Calls Tryz.prog 329 #[.pointer (some ⟨K.b,0,none⟩),.int .i64 a,.int .i64 n] w (PVb K w (v.setByte a n)) :=
 (mem_setByte w K.b K.bb v.x.mem a n h.vm.sp.mem).mono fun _ _ ⟨he,hm,k⟩=>⟨he,h.withMem k hm (Mem.setByte_size _ _ _),k⟩
theorem fv_sp (q:Sp × Int) (h:RFv w K v) (f:Nat) (args:Array Value) (hc:Calls Tryz.prog f args w (SpPost K.s K.b K.bb q w)) (hs:q.1.mem.size=v.x.mem.size):Calls Tryz.prog f args w (PVs K w (v.setSp q)) :=
 hc.mono fun _ _ ⟨he,hx,k⟩=>⟨he,h.withSp k hx hs,k⟩
theorem cells_nb (h:RFv w K v):K.mb≠K.bb∧K.s≠K.bb∧K.mb≠K.s:=⟨h.vm.ne.1.2.2.1,h.vm.sp.ne2,h.vm.ne.1.1⟩
end
theorem Sp.alignN_size:∀ (k:Nat) (x:Sp),(Sp.alignN k x).1.mem.size=x.mem.size
 | 0,_=>rfl
 | k+1,x=>by
  unfold Sp.alignN;split
  · rfl
  · split
    · exact Sp.char_size _ _
    · rw [Sp.alignN_size k];exact Sp.char_size _ _
theorem do_store (D:Int):DoOk D 2 327 (VM.two2 fun v n a=>v.setCell a n):=by
 refine ⟨fun args w=>Tryz.call327 args w,?_⟩
 intro K w v la c L h hd hN hl hb;obtain ⟨x,y,rfl⟩:∃ x y,L=[x,y]:=by match L,hl with | [x,y],_=>exact ⟨x,y,rfl⟩
 have q0:w.cell? ⟨la,0,none⟩=some (.int .i64 x):=hN.cell (i:=0) (by simp)
 have q1:w.cell? ⟨la,1,none⟩=some (.int .i64 y):=hN.cell (i:=1) (by simp)
 have hx:Sixty x:=hb x (by simp)
 have hy:Sixty y:=hb y (by simp)
 have HNF:=h_ (hN.nf h);have HNN:=h_ hN;clear hN hl hb;have R0:=h_ h;have K0:=h_ (Keeps.refl K.foot w);have HN:=h_ (cells_nb K w v h);have HQ:=h_ (show la≠K.bb from fun e=>HNF.out (.inr (.inr (.inl e))))
 have c0:=R0.out.m0;have cs:=R0.out.ms;unfold VM.two2;simp only [List.getD_cons_zero,List.getD_cons_succ]
 have HP:=h_ fun V (hV:RFv V K v)=>fv_setCellb K V v y x hV
 generalize v.setCell y x=q at HP ⊢;clear h hd
 go_enter Tryz.func327,Tryz.ntmps327
 go_wp2_with fail
 go_region_held3 (fun w'=>w'.cell? ⟨K.mb,0,none⟩=some (.pointer (some ⟨K.s,0,none⟩))∧w'.cell? ⟨K.s,0,none⟩=some (.pointer (some ⟨K.b,0,none⟩))∧w'.cell? ⟨la,0,none⟩=some (.int .i64 x)∧w'.cell? ⟨la,1,none⟩=some (.int .i64 y))
  (first | go_keep | exact ⟨t0,ts,tq,tr⟩)
  (first | (go_at_call 85;refine (HP.out w.drew (R0.out.keeps0 (Keeps.drew _ _))).mono ?_;rintro e w1 ⟨rfl,r1,k1⟩;dsimp only;have t0:=k1.cell c0 HN.out.1;have ts:=k1.cell cs HN.out.2.1;have tq:=k1.cell q0 HQ.out;have tr:=k1.cell q1 HQ.out))
 have R1:=h_ r1;have K1:=h_ ((Keeps.drew K.foot w).trans (foot_bb K k1));clear t0 ts tq tr r1 k1;go_wp2_with fail;go_ret
 exact ⟨rfl,R1.out,K1.out⟩
theorem do_cstore (D:Int):DoOk D 2 328 (VM.two2 fun v n a=>v.setByte a n):=by
 refine ⟨fun args w=>Tryz.call328 args w,?_⟩
 intro K w v la c L h hd hN hl hb;obtain ⟨x,y,rfl⟩:∃ x y,L=[x,y]:=by match L,hl with | [x,y],_=>exact ⟨x,y,rfl⟩
 have q0:w.cell? ⟨la,0,none⟩=some (.int .i64 x):=hN.cell (i:=0) (by simp)
 have q1:w.cell? ⟨la,1,none⟩=some (.int .i64 y):=hN.cell (i:=1) (by simp)
 have hx:Sixty x:=hb x (by simp)
 have hy:Sixty y:=hb y (by simp)
 have HNF:=h_ (hN.nf h);have HNN:=h_ hN;clear hN hl hb;have R0:=h_ h;have K0:=h_ (Keeps.refl K.foot w);have HN:=h_ (cells_nb K w v h);have HQ:=h_ (show la≠K.bb from fun e=>HNF.out (.inr (.inr (.inl e))))
 have c0:=R0.out.m0;have cs:=R0.out.ms;unfold VM.two2;simp only [List.getD_cons_zero,List.getD_cons_succ]
 have HP:=h_ fun V (hV:RFv V K v)=>fv_setByteb K V v y x hV
 generalize v.setByte y x=q at HP ⊢;clear h hd
 go_enter Tryz.func328,Tryz.ntmps328
 go_wp2_with fail
 go_region_held3 (fun w'=>w'.cell? ⟨K.mb,0,none⟩=some (.pointer (some ⟨K.s,0,none⟩))∧w'.cell? ⟨K.s,0,none⟩=some (.pointer (some ⟨K.b,0,none⟩))∧w'.cell? ⟨la,0,none⟩=some (.int .i64 x)∧w'.cell? ⟨la,1,none⟩=some (.int .i64 y))
  (first | go_keep | exact ⟨t0,ts,tq,tr⟩)
  (first | (go_at_call 329;refine (HP.out w.drew (R0.out.keeps0 (Keeps.drew _ _))).mono ?_;rintro e w1 ⟨rfl,r1,k1⟩;dsimp only;have t0:=k1.cell c0 HN.out.1;have ts:=k1.cell cs HN.out.2.1;have tq:=k1.cell q0 HQ.out;have tr:=k1.cell q1 HQ.out))
 have R1:=h_ r1;have K1:=h_ ((Keeps.drew K.foot w).trans (foot_bb K k1));clear t0 ts tq tr r1 k1;go_wp2_with fail;go_ret
 exact ⟨rfl,R1.out,K1.out⟩
theorem get_here:GetOk 331 (fun v=>(v,v.x.here,0)):=by
 refine ⟨fun args w=>Tryz.call331 args w,?_⟩
 intro K w v h;have HP:=h_ (sp_here w K.s K.b K.bb v.x h.vm.sp);have R0:=h_ h;have K0:=h_ (Keeps.refl K.foot w);have c0:=R0.out.m0;clear h
 go_enter Tryz.func331,Tryz.ntmps331
 go_wp2_with fail;refine (HP.out).mono ?_;rintro e w' ⟨rfl,rfl⟩;go_wp2_with fail;go_ret2
 exact ⟨rfl,R0.out,K0.out⟩
theorem plain_align:PlainOk 335 (fun v=>v.setSp v.x.align):=by
 refine ⟨fun args w=>Tryz.call335 args w,?_⟩
 intro K w v h;have HP:=h_ ((fv_sp K w v _ h _ _ (sp_align w K.s K.b K.bb v.x h.vm.sp) (Sp.alignN_size _ _)).mono fun _ _ h=>(show PV K w (v.setSp v.x.align) _ _ from ⟨h.1,h.2.1,foot_s K h.2.2⟩))
 generalize v.setSp v.x.align=q at HP ⊢;have R0:=h_ h;have K0:=h_ (Keeps.refl K.foot w);have c0:=R0.out.m0;clear h
 go_enter Tryz.func335,Tryz.ntmps335
 go_wp2_with fail;refine (HP.out).mono ?_;rintro e w1 ⟨rfl,r1,k1⟩;have R1:=h_ r1;have K1:=h_ (K0.out.trans k1);clear r1 k1
 try clear c0
 go_wp2_with fail;go_ret
 exact ⟨rfl,R1.out,K1.out⟩
theorem do_allot (D:Int):DoOk D 1 332 (VM.one1 fun v n=>v.setSp (v.x.allot n)):=by
 refine ⟨fun args w=>Tryz.call332 args w,?_⟩
 intro K w v la c L h hd hN hl hb;obtain ⟨x,rfl⟩:∃ x,L=[x]:=List.length_eq_one_iff.1 hl;have q0:w.cell? ⟨la,0,none⟩=some (.int .i64 x):=hN.cell (i:=0) (by simp)
 have hx:Sixty x:=hb x (by simp)
 have HNF:=h_ (hN.nf h);have HNN:=h_ hN;clear hN hl hb;have R0:=h_ h;have K0:=h_ (Keeps.refl K.foot w);have HN:=h_ (show ¬ (K.mb=K.s∨K.mb=K.bb) from fun e=>e.elim (cells_nb K w v h).2.2 (cells_nb K w v h).1)
 have HQ:=h_ (show ¬ (la=K.s∨la=K.bb) from fun e=>e.elim (fun e=>HNF.out (.inr (.inl e))) (fun e=>HNF.out (.inr (.inr (.inl e)))))
 have c0:=R0.out.m0;unfold VM.one1;simp only [List.getD_cons_zero]
 have HP:=h_ fun V (hV:RFv V K v)=>fv_sp K V v _ hV _ _ (sp_allot V K.s K.b K.bb v.x x hV.vm.sp) (congrArg Mem.size (Sp.allot_size _ _))
 generalize v.setSp (v.x.allot x)=q at HP ⊢;clear h hd
 go_enter Tryz.func332,Tryz.ntmps332
 go_wp2_with fail
 go_region_held3 (fun w'=>w'.cell? ⟨K.mb,0,none⟩=some (.pointer (some ⟨K.s,0,none⟩))∧w'.cell? ⟨la,0,none⟩=some (.int .i64 x))
  (first | go_keep | exact ⟨t0,tq⟩)
  (first | (go_at_call 256;refine (HP.out w.drew (R0.out.keeps0 (Keeps.drew _ _))).mono ?_;rintro e w1 ⟨rfl,r1,k1⟩;dsimp only;have t0:=k1.cell c0 HN.out;have tq:=k1.cell q0 HQ.out))
 have R1:=h_ r1;have K1:=h_ ((Keeps.drew K.foot w).trans (foot_s K k1));clear t0 tq r1 k1;go_wp2_with fail;go_ret
 exact ⟨rfl,R1.out,K1.out⟩
theorem do_comma (D:Int):DoOk D 1 333 (VM.one1 fun v n=>v.setSp (v.x.comma n)):=by
 refine ⟨fun args w=>Tryz.call333 args w,?_⟩
 intro K w v la c L h hd hN hl hb;obtain ⟨x,rfl⟩:∃ x,L=[x]:=List.length_eq_one_iff.1 hl;have q0:w.cell? ⟨la,0,none⟩=some (.int .i64 x):=hN.cell (i:=0) (by simp)
 have hx:Sixty x:=hb x (by simp)
 have HNF:=h_ (hN.nf h);have HNN:=h_ hN;clear hN hl hb;have R0:=h_ h;have K0:=h_ (Keeps.refl K.foot w);have HN:=h_ (show ¬ (K.mb=K.s∨K.mb=K.bb) from fun e=>e.elim (cells_nb K w v h).2.2 (cells_nb K w v h).1)
 have HQ:=h_ (show ¬ (la=K.s∨la=K.bb) from fun e=>e.elim (fun e=>HNF.out (.inr (.inl e))) (fun e=>HNF.out (.inr (.inr (.inl e)))))
 have c0:=R0.out.m0;unfold VM.one1;simp only [List.getD_cons_zero]
 have HP:=h_ fun V (hV:RFv V K v)=>fv_sp K V v _ hV _ _ (sp_comma V K.s K.b K.bb v.x x hV.vm.sp) (Sp.comma_size _ _)
 generalize v.setSp (v.x.comma x)=q at HP ⊢;clear h hd
 go_enter Tryz.func333,Tryz.ntmps333
 go_wp2_with fail
 go_region_held3 (fun w'=>w'.cell? ⟨K.mb,0,none⟩=some (.pointer (some ⟨K.s,0,none⟩))∧w'.cell? ⟨la,0,none⟩=some (.int .i64 x))
  (first | go_keep | exact ⟨t0,tq⟩)
  (first | (go_at_call 83;refine (HP.out w.drew (R0.out.keeps0 (Keeps.drew _ _))).mono ?_;rintro e w1 ⟨rfl,r1,k1⟩;dsimp only;have t0:=k1.cell c0 HN.out;have tq:=k1.cell q0 HQ.out))
 have R1:=h_ r1;have K1:=h_ ((Keeps.drew K.foot w).trans (foot_s K k1));clear t0 tq r1 k1;go_wp2_with fail;go_ret
 exact ⟨rfl,R1.out,K1.out⟩
theorem do_char (D:Int):DoOk D 1 334 (VM.one1 fun v n=>v.setSp (v.x.char n)):=by
 refine ⟨fun args w=>Tryz.call334 args w,?_⟩
 intro K w v la c L h hd hN hl hb;obtain ⟨x,rfl⟩:∃ x,L=[x]:=List.length_eq_one_iff.1 hl;have q0:w.cell? ⟨la,0,none⟩=some (.int .i64 x):=hN.cell (i:=0) (by simp)
 have hx:Sixty x:=hb x (by simp)
 have HNF:=h_ (hN.nf h);have HNN:=h_ hN;clear hN hl hb;have R0:=h_ h;have K0:=h_ (Keeps.refl K.foot w);have HN:=h_ (show ¬ (K.mb=K.s∨K.mb=K.bb) from fun e=>e.elim (cells_nb K w v h).2.2 (cells_nb K w v h).1)
 have HQ:=h_ (show ¬ (la=K.s∨la=K.bb) from fun e=>e.elim (fun e=>HNF.out (.inr (.inl e))) (fun e=>HNF.out (.inr (.inr (.inl e)))))
 have c0:=R0.out.m0;unfold VM.one1;simp only [List.getD_cons_zero]
 have HP:=h_ fun V (hV:RFv V K v)=>fv_sp K V v _ hV _ _ (sp_char V K.s K.b K.bb v.x x hV.vm.sp) (Sp.char_size _ _)
 generalize v.setSp (v.x.char x)=q at HP ⊢;clear h hd
 go_enter Tryz.func334,Tryz.ntmps334
 go_wp2_with fail
 go_region_held3 (fun w'=>w'.cell? ⟨K.mb,0,none⟩=some (.pointer (some ⟨K.s,0,none⟩))∧w'.cell? ⟨la,0,none⟩=some (.int .i64 x))
  (first | go_keep | exact ⟨t0,tq⟩)
  (first | (go_at_call 253;refine (HP.out w.drew (R0.out.keeps0 (Keeps.drew _ _))).mono ?_;rintro e w1 ⟨rfl,r1,k1⟩;dsimp only;have t0:=k1.cell c0 HN.out;have tq:=k1.cell q0 HQ.out))
 have R1:=h_ r1;have K1:=h_ ((Keeps.drew K.foot w).trans (foot_s K k1));clear t0 tq r1 k1;go_wp2_with fail;go_ret
 exact ⟨rfl,R1.out,K1.out⟩
end Go.Proofs.Shed
namespace Go.Proofs.Shed
open Go.RowKit Go.Proofs.Cod
theorem sx_of {x:Int} (h : -10000≤x∧x≤10000):Sixty x:=by unfold Sixty;omega
def Kd (x:Int):Prop := -10000≤x∧x≤10000
theorem Kd.sx {x:Int} (h:Kd x):Sixty x:=sx_of h
namespace Mem
theorem at_kd (m:Mem) (a:Int):Kd (m.at_ a):=by unfold at_;(repeat' split) <;> (unfold Kd;(try dsimp only);omega)
theorem cell_kd (m:Mem) (a:Int):Kd (m.cell a).2:=by
 unfold cell;split
 · unfold Kd;(try dsimp only);omega
 · exact at_kd _ _
theorem setCell_kd (m:Mem) (a n:Int):Kd (m.setCell a n).2:=by
 unfold setCell;split
 · unfold Kd;(try dsimp only);omega
 · exact at_kd _ _
theorem setByte_kd (m:Mem) (a n:Int):Kd (m.setByte a n).2:=by unfold setByte;(repeat' split) <;> (unfold Kd;(try dsimp only);omega)
theorem byteAt_kd (m:Mem) (a:Int):Kd (m.byteAt a).2:=by unfold byteAt;(repeat' split) <;> (unfold Kd;(try dsimp only);omega)
theorem text_kd (m:Mem) (a n:Int):Kd (m.text a n).2:=by unfold text;(repeat' split) <;> (unfold Kd;(try dsimp only);omega)
theorem setText_kd (m:Mem) (a:Int) (t:List UInt8):Kd (m.setText a t).2:=by unfold setText;(repeat' split) <;> (unfold Kd;(try dsimp only);omega)
end Mem
namespace Sp
theorem allot_kd (s:Sp) (n:Int):Kd (s.allot n).2:=by unfold allot;(repeat' split) <;> (unfold Kd;(try dsimp only);omega)
theorem put_kd (s:Sp) (n:Int) (r:Mem × Int) (h:Kd r.2):Kd (s.put n r).2:=by
 unfold put;split
 · split
   · exact h
   · exact allot_kd _ _
 · exact allot_kd _ _
theorem comma_kd (s:Sp) (n:Int):Kd (s.comma n).2:=put_kd _ _ _ (Mem.setCell_kd _ _ _)
theorem char_kd (s:Sp) (n:Int):Kd (s.char n).2:=put_kd _ _ _ (Mem.setByte_kd _ _ _)
theorem chars_kd (s:Sp) (t:List UInt8):Kd (s.chars t).2:=put_kd _ _ _ (Mem.setText_kd _ _ _)
theorem back_kd (s:Sp) (n:Int):Kd (s.back n).2:=by unfold back;(repeat' split) <;> (unfold Kd;(try dsimp only);omega)
theorem alignN_kd (k:Nat) (s:Sp):Kd (alignN k s).2:=by
 induction k generalizing s with
 | zero=>show Kd 0;unfold Kd;(try dsimp only);omega
 | succ k ih =>
  unfold alignN;split
  · unfold Kd;(try dsimp only);omega
  · split
    · exact char_kd _ _
    · exact ih _
theorem align_kd (s:Sp):Kd s.align.2:=alignN_kd 8 s
end Sp
structure Kp where
 n:Int
 m:Prop
 b:Nat
namespace Stk
variable {κ:Kp}
def Cd (κ:Kp) (s:Stk):Prop:=Kd s.over∧Kd s.under∧κ.n≤s.most
theorem push_kd (m:Mem) (s:Stk) (l:List Int) (h:Cd κ s):Kd (push m s l).2.2∧Cd κ (push m s l).2.1:=by
 unfold push;split
 · exact ⟨h.1,h⟩
 · rw [pushN_depth];exact ⟨(by unfold Kd;(try dsimp only);omega),h⟩
theorem at_kd (m:Mem) (s:Stk) (i:Int) (h:Cd κ s):Kd (at_ m s i).2:=by
 unfold at_;split
 · unfold Kd;(try dsimp only);omega
 · split
   · exact h.2.1
   · exact Mem.cell_kd _ _
theorem pop_kd (m:Mem) (s:Stk) (h:Cd κ s):Kd (pop m s).2.2∧Cd κ (pop m s).1:=by
 refine ⟨at_kd m s 0 h,?_⟩;unfold pop;simp only
 split <;> exact h
theorem drop_kd (s:Stk) (n:Int) (h:Cd κ s):Kd (drop s n).2∧Cd κ (drop s n).1:=by
 unfold drop;split
 · exact ⟨(by unfold Kd;(try dsimp only);omega),h⟩
 · split
   · exact ⟨h.1,h⟩
   · exact ⟨(by unfold Kd;(try dsimp only);omega),h⟩
end Stk
namespace Heap
theorem put_kd (m:Mem) (b:Blk):Kd (put m b).2:=Mem.setCell_kd _ _ _
theorem alloc_kd (m:Mem) (lo hi n:Int):Kd (alloc m lo hi n).2.2:=by
 unfold alloc;split
 · unfold Kd;(try dsimp only);omega
 · split
   · unfold Kd;(try dsimp only);omega
   · split
     · unfold Kd;(try dsimp only);omega
     · unfold give;split
       · exact put_kd _ _
       · exact put_kd _ _
end Heap
namespace Obj
theorem size_kd (m:Mem) (c:Int):Kd (size m c).2:=by unfold size;(repeat' split) <;> (unfold Kd;(try dsimp only);omega)
theorem make_kd (m:Mem) (a c:Int):Kd (make m a c).2:=by
 unfold make;split
 · exact size_kd _ _
 · split
   · exact Mem.cell_kd _ _
   · split
     · exact Mem.setText_kd _ _ _
     · exact Mem.setCell_kd _ _ _
theorem heap_kd (m:Mem) (lo hi c:Int):Kd (heap m lo hi c).2.2:=by
 unfold heap;split
 · exact size_kd _ _
 · split
   · exact Heap.alloc_kd _ _ _ _
   · exact make_kd _ _ _
theorem cls_kd (m:Mem) (r a:Int):Kd (cls m r a).2:=by unfold cls;(repeat' split) <;> (unfold Kd;(try dsimp only);omega)
theorem send_kd (m:Mem) (r a s:Int):Kd (send m r a s).2.2:=by
 unfold send;split
 · exact cls_kd _ _ _
 · split <;> (unfold Kd;(try dsimp only);omega)
end Obj
namespace VM
def Cd (κ:Kp) (v:VM):Prop:=Stk.Cd κ v.d∧Stk.Cd κ v.r
def Fn (κ:Kp) (q:VM × Int):Prop:=Cd κ q.1∧Sixty q.2
variable {κ:Kp}
theorem push_fn {v:VM} (h:(Cd κ v)) (l:List Int):Fn κ (v.push l):=⟨⟨(Stk.push_kd _ _ l h.1).2,h.2⟩,(Stk.push_kd _ _ l h.1).1.sx⟩
theorem rpush_fn {v:VM} (h:(Cd κ v)) (l:List Int):Fn κ (v.rpush l):=⟨⟨h.1,(Stk.push_kd _ _ l h.2).2⟩,(Stk.push_kd _ _ l h.2).1.sx⟩
theorem pop_cd {v:VM} (h:(Cd κ v)):(Cd κ v.pop.1)∧Sixty v.pop.2.2:=⟨⟨(Stk.pop_kd v.x.mem v.d h.1).2,h.2⟩,(Stk.pop_kd v.x.mem v.d h.1).1.sx⟩
theorem rpop_cd {v:VM} (h:(Cd κ v)):(Cd κ v.rpop.1)∧Sixty v.rpop.2.2:=⟨⟨h.1,(Stk.pop_kd v.x.mem v.r h.2).2⟩,(Stk.pop_kd v.x.mem v.r h.2).1.sx⟩
theorem rdrop_fn {v:VM} (h:(Cd κ v)) (n:Int):Fn κ (v.rdrop n):=⟨⟨h.1,(Stk.drop_kd _ n h.2).2⟩,(Stk.drop_kd _ n h.2).1.sx⟩
theorem ddrop_fn {v:VM} (h:(Cd κ v)) (n:Int):Fn κ (v.ddrop n):=⟨⟨(Stk.drop_kd _ n h.1).2,h.2⟩,(Stk.drop_kd _ n h.1).1.sx⟩
theorem k0:Kd 0:=by unfold Kd;(try dsimp only);omega
theorem fn_of {v:VM} (h:(Cd κ v)) {c:Int} (hc:Kd c):Fn κ (v,c):=⟨h,hc.sx⟩
theorem mem_cd {v:VM} (h:(Cd κ v)) (m:Mem):(Cd κ (v.mem m)):=h
theorem method_fn {v:VM} (h:(Cd κ v)) (xt o:Int):Fn κ (v.method xt o):=by
 unfold method;split
 · exact fn_of h (by unfold Kd;(try dsimp only);omega)
 · split
   · exact rpush_fn h _
   · exact ⟨(rpush_fn h [v.self,v.ip]).1,k0.sx⟩
theorem definition_fn {v:VM} (h:(Cd κ v)) (xt:Int):Fn κ (v.definition xt):=by
 unfold definition;split
 · exact rpush_fn h _
 · exact ⟨(rpush_fn h [v.ip]).1,k0.sx⟩
theorem send_fn {v:VM} (h:(Cd κ v)) (a s:Int):Fn κ (v.send a s):=by
 unfold send;split
 · exact fn_of h (Obj.send_kd _ _ _ _)
 · exact method_fn h _ _
theorem loop_fn {v:VM} (h:(Cd κ v)) (n:Int):Fn κ (v.loop n):=by
 unfold loop;simp only
 split
 · exact ⟨h,(Mem.cell_kd _ _).sx⟩
 · split
   · exact ⟨h,(Stk.at_kd _ _ _ h.2).sx⟩
   · have h1:=rpop_cd (v:=v.inline.1) h
     split
     · exact ⟨(rpop_cd h1.1).1,k0.sx⟩
     · exact rpush_fn (v:={ v.inline.1.rpop.1 with ip:=_ }) h1.1 _
theorem shown_fn {v:VM} (h:(Cd κ v)) (t:List UInt8):Fn κ (v.shown t):=by
 unfold shown;split
 · exact fn_of h (by unfold Kd;(try dsimp only);omega)
 · exact ⟨h,k0.sx⟩
theorem caught_fn {v:VM} (h:(Cd κ v)):Fn κ v.caughtF:=by
 unfold caughtF;split
 · exact fn_of h (by unfold Kd;(try dsimp only);omega)
 · exact push_fn (v:={ (v.rdrop (v.r.depth-4)).1 with ip:=_,self:=_,handler:=_ }) (rdrop_fn h _).1 _
theorem new_fn {v:VM} (h:(Cd κ v)) (c:Int):Fn κ (v.newF c):=by
 unfold newF;split
 · exact fn_of h (by unfold Kd;(try dsimp only);omega)
 · simp only
   split
   · exact ⟨h,(Obj.heap_kd _ _ _ _).sx⟩
   · exact push_fn (mem_cd h _) _
theorem throw_cd {v:VM} (h:(Cd κ v)) (e:Int):(Cd κ (v.throw e).1):=by
 unfold throw;split
 · exact h
 · split
   · exact h
   · simp only
     have h1:=(rdrop_fn h v.handler).1;have h2:=(rdrop_fn h1 (v.handler-4)).1;split
     · exact h2
     · have h3:=(ddrop_fn (v:={ ((v.rdrop v.handler).1.rdrop (v.handler-4)).1 with ip:=(tops (v.rdrop v.handler).1.x.mem (v.rdrop v.handler).1.r 4).getD 0 0,self:=(tops (v.rdrop v.handler).1.x.mem (v.rdrop v.handler).1.r 4).getD 1 0,handler:=handlerOf ((tops (v.rdrop v.handler).1.x.mem (v.rdrop v.handler).1.r 4).getD 3 0) }) h2 ((tops (v.rdrop v.handler).1.x.mem (v.rdrop v.handler).1.r 4).getD 2 0)).1
       split
       · exact h3
       · exact (push_fn h3 _).1
theorem outcome_fn {q:VM × Int} (h:Fn κ q):Fn κ (outcome q):=by
 unfold outcome;split
 · exact h
 · refine ⟨throw_cd h.1 _,?_⟩
   show Sixty (if _ then _ else _)
   split
   · exact k0.sx
   · exact h.2
def SP (κ:Kp) (g:VM→VM × Int):Prop:=∀ v:VM,(Cd κ v)→Fn κ (g v)
def SL (κ:Kp) (g:VM→List Int→VM × Int):Prop:=∀ (v:VM) (l:List Int),(Cd κ v)→(∀ i,Sixty (l.getD i 0))→Fn κ (g v l)
def SG (κ:Kp) (g:VM→VM × Int × Int):Prop:=∀ v:VM,(Cd κ v)→(Cd κ (g v).1)∧Sixty (g v).2.2
theorem SP.ite {c:Prop} [Decidable c] {a b:VM→VM × Int} (ha:SP κ a) (hb:SP κ b):SP κ (if c then a else b):=by split;exact ha;exact hb
theorem SL.ite {c:Prop} [Decidable c] {a b:VM→List Int→VM × Int} (ha:SL κ a) (hb:SL κ b):SL κ (if c then a else b):=by split;exact ha;exact hb
theorem SG.ite {c:Prop} [Decidable c] {a b:VM→VM × Int × Int} (ha:SG κ a) (hb:SG κ b):SG κ (if c then a else b):=by split;exact ha;exact hb
theorem doF_fn (en:VM→Int→VM × Int) (he:∀ (v:VM) xt,(Cd κ v)→Fn κ (en v xt)) (f:Nat):SL κ (doF en f):=by
 unfold doF
 refine SL.ite (fun v l h hl=>by
  unfold one1;simp only
  exact ⟨by split <;> exact h,(Mem.cell_kd _ _).sx⟩) ?_
 refine SL.ite (fun v l h hl=>rpush_fn h _) ?_
 refine SL.ite (fun v l h hl=>loop_fn h _) ?_
 refine SL.ite (fun v l h hl=>he _ _ h) ?_
 refine SL.ite (fun v l h hl=>by
  unfold one1;simp only
  split <;> exact push_fn h _) ?_
 refine SL.ite (fun v l h hl=>by
  unfold one1;simp only;split
  · exact fn_of h (by unfold Kd;omega)
  · exact push_fn h _) ?_
 refine SL.ite (fun v l h hl=>rpush_fn h _) ?_
 refine SL.ite (fun v l h hl=>⟨h,(Mem.setCell_kd _ _ _).sx⟩) ?_
 refine SL.ite (fun v l h hl=>⟨h,(Mem.setByte_kd _ _ _).sx⟩) ?_
 refine SL.ite (fun v l h hl=>by
  unfold two2;simp only;split
  · exact ⟨h,(Mem.cell_kd _ _).sx⟩
  · exact ⟨h,(Mem.setCell_kd _ _ _).sx⟩) ?_
 refine SL.ite (fun v l h hl=>⟨h,(Sp.allot_kd _ _).sx⟩) ?_
 refine SL.ite (fun v l h hl=>⟨h,(Sp.comma_kd _ _).sx⟩) ?_
 refine SL.ite (fun v l h hl=>⟨h,(Sp.char_kd _ _).sx⟩) ?_
 refine SL.ite (fun v l h hl=>by unfold one1 heapOf;exact push_fn (mem_cd h _) _) ?_
 refine SL.ite (fun v l h hl=>by unfold one1;exact push_fn (mem_cd h _) _) ?_
 refine SL.ite (fun v l h hl=>by unfold two2 heapOf;exact push_fn (mem_cd h _) _) ?_
 refine SL.ite (fun v l h hl=>⟨h,k0.sx⟩) ?_
 refine SL.ite (fun v l h hl=>⟨h,(Mem.text_kd _ _ _).sx⟩) ?_
 refine SL.ite (fun v l h hl=>shown_fn h _) ?_
 refine SL.ite (fun v l h hl=>shown_fn h _) ?_
 refine SL.ite (fun v l h hl=>by
  unfold one1;simp only;split
  · exact rpush_fn h _
  · exact he _ _ (rpush_fn h _).1) ?_
 refine SL.ite (fun v l h hl=>⟨h,hl 0⟩) ?_
 refine SL.ite (fun v l h hl=>new_fn h _) ?_
 refine SL.ite (fun v l h hl=>by
  unfold one1;simp only;split
  · exact ⟨h,(Obj.cls_kd _ _ _).sx⟩
  · exact push_fn h _) ?_
 refine SL.ite (fun v l h hl=>by
  unfold one1;simp only;split
  · exact ⟨h,(Mem.cell_kd _ _).sx⟩
  · exact send_fn (v:=v.inline.1) h _ _) ?_
 refine SL.ite (fun v l h hl=>by
  unfold one1;simp only;split
  · exact ⟨h,(Mem.cell_kd _ _).sx⟩
  · exact method_fn (v:=v.inline.1) h _ _) ?_
 exact fun v l h hl=>fn_of h (by unfold Kd;omega)
theorem getF_fn (f:Nat):SG κ (getF f):=by
 unfold getF
 repeat' apply SG.ite
 all_goals
  intro v h
  first
  | exact ⟨h,(Mem.cell_kd _ _).sx⟩
  | exact ⟨h,(Stk.at_kd _ _ _ h.2).sx⟩
  | exact ⟨h,k0.sx⟩
  | exact rpop_cd h
  | (dsimp only;split <;> exact ⟨h,k0.sx⟩)
theorem plainF_fn (f:Nat):SP κ (plainF f):=by
 unfold plainF
 repeat' apply SP.ite
 all_goals
  intro v h
  first
  | exact loop_fn h _
  | exact caught_fn h
  | exact ⟨(rpop_cd h).1,(rpop_cd h).2⟩
  | exact ⟨h,(Mem.cell_kd _ _).sx⟩
  | exact ⟨h,(Sp.align_kd _).sx⟩
  | exact ⟨h,k0.sx⟩
  | exact fn_of h (by unfold Kd;(try dsimp only);omega)
  | (unfold unloop;split;exact fn_of h (by unfold Kd;(try dsimp only);omega);exact rdrop_fn h _)
  | (dsimp only;(repeat' split);all_goals first | exact fn_of h (by unfold Kd;(try dsimp only);omega) | exact ⟨h,(Mem.cell_kd _ _).sx⟩ | exact method_fn (v:=v.inline.1.inline.1) h _ _ | exact ⟨(rpop_cd (v:={ v.rpop.1 with ip:=_ }) (rpop_cd h).1).1,k0.sx⟩)
theorem tops_getD (m:Mem) (d:Stk) (n i:Nat):Sixty ((tops m d n).getD i 0):=by
 by_cases h:i<(tops m d n).length
 · have:=tops_sixty m d n _ (List.getElem_mem h)
   simpa [h] using this
 · simp only [List.getD_eq_getElem?_getD,List.getElem?_eq_none (Nat.le_of_not_lt h)]
   exact k0.sx
theorem withN_fn (n:Nat) (f:VM→List Int→VM × Int) (h:SL κ f):SP κ (withN n f):=by
 intro v hv;unfold withN;split
 · exact fn_of hv (by unfold Kd;(try dsimp only);omega)
 · exact h { v with d:=_ } _ hv (fun i=>tops_getD _ _ _ i)
theorem two_kd (op:List UInt8) (a b:Int):Kd (Ari.two op a b).2:=by
 unfold Ari.two
 (repeat' split) <;> (unfold Kd;simp)
theorem den_fn (en:VM→Int→VM × Int) (he:∀ (v:VM) xt,(Cd κ v)→Fn κ (en v xt)) (kd:Pk):SP κ (den en kd):=by
 cases kd with
 | plain f=>exact plainF_fn f
 | with_ n f=>exact withN_fn _ _ (doF_fn en he f)
 | push f =>
  intro v h
  show Fn κ (pushOf (getF f) v)
  unfold pushOf;split
  · exact getF_fn f v h
  · exact push_fn (getF_fn f v h).1 _
 | moves n l=>exact withN_fn _ _ (fun v l h _=>push_fn h _)
 | look f=>exact withN_fn _ _ (fun v l h _=>by
  unfold lookOf readF;split
  · split
    · exact ⟨h,(Mem.cell_kd _ _).sx⟩
    · exact push_fn h _
  · split
    · exact ⟨h,(Mem.byteAt_kd _ _).sx⟩
    · exact push_fn h _)
 | two op=>exact withN_fn _ _ (fun v l h _=>by
  unfold arith;split
  · exact ⟨h,(two_kd _ _ _).sx⟩
  · exact push_fn h _)
 | one op=>exact withN_fn _ _ (fun v l h _=>by
  unfold arith;split
  · exact ⟨h,k0.sx⟩
  · exact push_fn h _)
theorem enterF_fn (en:VM→Int→VM × Int) (he:∀ (v:VM) xt,(Cd κ v)→Fn κ (en v xt)) (v:VM) (xt:Int) (h:(Cd κ v)):Fn κ (enterF en v xt):=by
 unfold enterF;dsimp only
 repeat' split
 all_goals first
  | exact ⟨h,(Mem.cell_kd _ _).sx⟩
  | exact definition_fn h _
  | exact push_fn h _
  | exact den_fn en he _ _ h
  | exact fn_of h (by unfold Kd;(try dsimp only);omega)
theorem enterN_fn:∀ (k:Nat) (v:VM) (xt:Int),(Cd κ v)→Fn κ (enterN k v xt)
 | 0,_,_,h=>fn_of h (by unfold Kd;(try dsimp only);omega)
 | k+1,v,xt,h=>enterF_fn _ (enterN_fn k) v xt h
theorem step_fn {v:VM} (h:(Cd κ v)) (xt:Int):Fn κ (v.step xt):=by
 unfold step;split
 · exact fn_of h (by unfold Kd;(try dsimp only);omega)
 · exact outcome_fn (enterN_fn _ _ _ h)
theorem astray_fn {v:VM} (h:(Cd κ v)) (e:Int) (he:Sixty e):Fn κ (v.astray e):=by
 unfold astray;split
 · exact fn_of h (by unfold Kd;(try dsimp only);omega)
 · exact outcome_fn ⟨h,he⟩
theorem round_fn {v:VM} (h:(Cd κ v)):Fn κ v.round:=by
 unfold round;split
 · exact step_fn (v:=v.inline.1) h _
 · exact astray_fn (v:=v.inline.1) h _ (Mem.cell_kd _ _).sx
theorem runN_fn:∀ (k:Nat) (q:VM × Int),Fn κ q→Fn κ (runN k q)
 | 0,_,h=>h
 | k+1,q,h=>by
  unfold runN;split
  · exact runN_fn k _ (round_fn h.1)
  · exact h
theorem run_fn {v:VM} (h:(Cd κ v)) (xt:Int):Fn κ (v.run xt):=runN_fn _ _ (step_fn (v:={ v with ip:=0,self:=0,handler:=0 }) h xt)
theorem runN_fuel:∀ (k:Nat) (q:VM × Int),(runN k q).1.fuel≤q.1.fuel
 | 0,_=>Int.le_refl _
 | k+1,q=>by
  unfold runN;split
  · refine Int.le_trans (runN_fuel k _) ?_
    rw [round_fuel];split <;> omega
  · exact Int.le_refl _
theorem run_fuel (v:VM) (xt:Int):(v.run xt).1.fuel≤v.fuel:=by
 refine Int.le_trans (runN_fuel _ _) ?_;rw [step_fuel];split
 · exact Int.le_refl _
 · show v.fuel-1≤v.fuel
   omega
end VM
end Go.Proofs.Shed
namespace Go.Proofs.Shed
open Go Go.RowKit Go.Proofs.K Go.Proofs.Cod
def VM.fresh (dict data ret slots hz:Int) (inp:List UInt8) (y:Sp) (root base list caught:Int):VM :=
 { x:=y,d:=⟨dict,data,0,-3,-4⟩,r:=⟨dict+data*8,ret,0,-5,-6⟩,hlo:=dict+data*8+ret*8,hto:=dict+data*8+ret*8+hz,ip:=0,self:=0,root:=root,list:=list,slots:=slots,fuel:=0,out:=[],inp:=inp,over:=false,base:=base,caught:=caught,handler:=0 }
end Go.Proofs.Shed
