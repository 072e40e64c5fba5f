/- Of CallsG: WFvK, WFvL, WFvM, WFvN, WFvO, WFvQ, WFvR, WFvT, WFvU, WFvW. No condition. -/
import Derived.Test.YthhfkhhhclmimaaGreatDoorM33
import Derived.Test.YthhfkhhhclmimaaGreatDoorM18
set_option linter.unusedVariables false
set_option linter.unusedSimpArgs false
set_option maxRecDepth 10000
set_option maxHeartbeats 4000000
namespace Go.Proofs.Shed
open Go Go.RowKit Go.Proofs.K Go.Proofs.Cod
def PVb2 (K:Bk) (w:World) (q:VM × Int × Int) (e:Ending) (w':World):Prop:=e=.returned (.tuple #[.int .i64 q.2.1,.int .i64 q.2.2])∧RFv w' K q.1∧Keeps (fun g=>g=K.bb) w w'
theorem Heap.resize_size (m:Mem) (lo hi a n:Int):(Heap.resize m lo hi a n).1.size=m.size:=by
 rw [Heap.resize_eq];split
 · rfl
 · split
   · rfl
   · split
     · exact alloc_size _ _ _ _
     · rw [free_size,Mem.setText_size];exact alloc_size _ _ _ _
section
variable (K:Bk) (w:World) (v:VM)
theorem fv_alloc (n:Int) (h:RFv w K v):Calls Tryz.prog 337 #[.pointer (some ⟨K.hb,0,none⟩),.int .i64 n] w (PVb2 K w (v.mem (Heap.alloc v.x.mem v.hlo v.hto n).1,(Heap.alloc v.x.mem v.hlo v.hto n).2)) :=
 (heap_alloc w K.hb K.b K.bb v.x.mem v.hlo v.hto n h.hpc).mono fun _ _ ⟨he,hm,k⟩=>⟨he,h.withMem k hm.mem (alloc_size _ _ _ _),k⟩
theorem fv_free (n:Int) (h:RFv w K v):Calls Tryz.prog 339 #[.pointer (some ⟨K.hb,0,none⟩),.int .i64 n] w (PVb K w (v.mem (Heap.free v.x.mem v.hlo v.hto n).1,(Heap.free v.x.mem v.hlo v.hto n).2)) :=
 (heap_free w K.hb K.b K.bb v.x.mem v.hlo v.hto n h.hpc).mono fun _ _ ⟨he,hm,k⟩=>⟨he,h.withMem k hm.mem (free_size _ _ _ _),k⟩
theorem fv_resize (a n:Int) (h:RFv w K v):Calls Tryz.prog 341 #[.pointer (some ⟨K.hb,0,none⟩),.int .i64 a,.int .i64 n] w (PVb2 K w (v.mem (Heap.resize v.x.mem v.hlo v.hto a n).1,(Heap.resize v.x.mem v.hlo v.hto a n).2)) :=
 (heap_resize w K.hb K.b K.bb v.x.mem v.hlo v.hto a n h.hpc).mono fun _ _ ⟨he,hm,k⟩=>⟨he,h.withMem k hm.mem (Heap.resize_size _ _ _ _ _),k⟩
end
theorem do_allocate (D:Int):DoOk D 1 336 (VM.one1 fun v n=>v.heapOf (Heap.alloc v.x.mem v.hlo v.hto n) (Heap.alloc v.x.mem v.hlo v.hto n).2.1):=by
 refine ⟨fun args w=>Tryz.call336 args w,?_⟩
 intro K w v la c L h hd hN hl hb;obtain ⟨x,rfl⟩:∃ x,L=[x]:=List.length_eq_one_iff.1 hl;have q0:w.cell? ⟨la,0,none⟩=some (.int .i64 x):=hN.cell (i:=0) (by simp)
 have hx:Sixty x:=hb x (by simp)
 have HNF:=h_ (hN.nf h);have HNN:=h_ hN;clear hN hl hb;have R0:=h_ h;have K0:=h_ (Keeps.refl K.foot w);have HN:=h_ (cells_nb K w v h);have HQ:=h_ (show la≠K.bb from fun e=>HNF.out (.inr (.inr (.inl e))))
 have c3:=R0.out.m3;unfold VM.one1 VM.heapOf;simp only [List.getD_cons_zero]
 have HP:=h_ fun V (hV:RFv V K v)=>fv_alloc K V v x hV
 generalize Heap.alloc v.x.mem v.hlo v.hto x=q at HP ⊢;obtain ⟨m,a,e⟩:=q;simp only at HP ⊢
 generalize v.mem m=v1 at HP ⊢;have HP2:=h_ fun V (hV:RFv V K v1)=>fv_push2p K V v1 a e 2 hV
 clear h hd
 go_enter Tryz.func336,Tryz.ntmps336
 go_wp2_with fail
 go_region_held3 (fun w'=>w'.cell? ⟨K.mb,3,none⟩=some (.pointer (some ⟨K.hb,0,none⟩))∧w'.cell? ⟨la,0,none⟩=some (.int .i64 x))
  (first | go_keep | exact ⟨t3,tq⟩)
  (first | (go_at_call 337;refine (HP.out w.drew (R0.out.keeps0 (Keeps.drew _ _))).mono ?_;rintro e w1 ⟨rfl,r1,k1⟩;dsimp only;have t3:=k1.cell c3 HN.out.1;have tq:=k1.cell q0 HQ.out))
 have R1:=h_ r1;have K1:=h_ ((Keeps.drew K.foot w).trans (foot_bb K k1));clear t3 tq r1 k1 c3;have c1:=R1.out.m1;go_wp2_with fail;refine (HP2.out w1 R1.out).mono ?_;rintro e w2 ⟨rfl,r2,k2⟩;have R2:=h_ r2;have K2:=h_ (K1.out.trans k2);clear r2 k2
 try clear c1;try clear c3
 go_wp2_with fail;go_ret
 exact ⟨rfl,R2.out,K2.out⟩
theorem do_free (D:Int):DoOk D 1 338 (VM.one1 fun v n=>(v.mem (Heap.free v.x.mem v.hlo v.hto n).1).push [(Heap.free v.x.mem v.hlo v.hto n).2]):=by
 refine ⟨fun args w=>Tryz.call338 args w,?_⟩
 intro K w v la c L h hd hN hl hb;obtain ⟨x,rfl⟩:∃ x,L=[x]:=List.length_eq_one_iff.1 hl;have q0:w.cell? ⟨la,0,none⟩=some (.int .i64 x):=hN.cell (i:=0) (by simp)
 have hx:Sixty x:=hb x (by simp)
 have HNF:=h_ (hN.nf h);have HNN:=h_ hN;clear hN hl hb;have R0:=h_ h;have K0:=h_ (Keeps.refl K.foot w);have HN:=h_ (cells_nb K w v h);have HND:=h_ (mb_nd K w v h);have HQ:=h_ (show la≠K.bb from fun e=>HNF.out (.inr (.inr (.inl e))))
 have HQD:=h_ (show ¬ (la=K.db∨la=K.bb) from fun e=>e.elim (fun e=>HNF.out (.inr (.inr (.inr (.inl e))))) (fun e=>HNF.out (.inr (.inr (.inl e)))))
 have c1:=R0.out.m1;have c3:=R0.out.m3;unfold VM.one1;simp only [List.getD_cons_zero]
 have HP:=h_ fun V (hV:RFv V K v)=>fv_free K V v x hV
 generalize Heap.free v.x.mem v.hlo v.hto x=q at HP ⊢;obtain ⟨m,e⟩:=q;simp only at HP ⊢
 generalize v.mem m=v1 at HP ⊢;have HP2:=h_ fun V (hV:RFv V K v1)=>fv_push1 K V v1 e 2 hV
 clear h hd
 go_enter Tryz.func338,Tryz.ntmps338
 go_wp2_with fail
 go_region_held3 (fun w'=>w'.cell? ⟨K.mb,1,none⟩=some (.pointer (some ⟨K.db,0,none⟩))∧w'.cell? ⟨K.mb,3,none⟩=some (.pointer (some ⟨K.hb,0,none⟩))∧w'.cell? ⟨la,0,none⟩=some (.int .i64 x))
  (first | go_keep | exact ⟨u1,u3,uq⟩ | exact ⟨t1,t3,tq⟩)
  (first | (go_at_call 339;refine (HP.out w.drew (R0.out.keeps0 (Keeps.drew _ _))).mono ?_;rintro e w1 ⟨rfl,r1,k1⟩;dsimp only;have t1:=k1.cell c1 HN.out.1;have t3:=k1.cell c3 HN.out.1;have tq:=k1.cell q0 HQ.out) | (go_at_call 80;refine (HP2.out w1 r1).mono ?_;rintro e w2 ⟨rfl,r2,k2⟩;dsimp only;have u1:=k2.cell t1 HND.out;have u3:=k2.cell t3 HND.out;have uq:=k2.cell tq HQD.out))
 have R2:=h_ r2;have K2:=h_ (((Keeps.drew K.foot w).trans (foot_bb K k1)).trans (foot_dbb K k2));clear t1 t3 tq u1 u3 uq r1 k1 r2 k2 c1 c3;go_wp2_with fail;go_ret
 exact ⟨rfl,R2.out,K2.out⟩
theorem do_resize (D:Int):DoOk D 2 340 (VM.two2 fun v a n=>v.heapOf (Heap.resize v.x.mem v.hlo v.hto a n) (if (Heap.resize v.x.mem v.hlo v.hto a n).2.2≠0 then a else (Heap.resize v.x.mem v.hlo v.hto a n).2.1)):=by
 refine ⟨fun args w=>Tryz.call340 args w,?_⟩
 intro K w v la c L h hd hN hl hb;obtain ⟨x,y,rfl⟩:∃ x y,L=[x,y]:=by match L,hl with | [x,y],_=>exact ⟨x,y,rfl⟩
 have q0:w.cell? ⟨la,0,none⟩=some (.int .i64 x):=hN.cell (i:=0) (by simp)
 have q1:w.cell? ⟨la,1,none⟩=some (.int .i64 y):=hN.cell (i:=1) (by simp)
 have hx:Sixty x:=hb x (by simp)
 have hy:Sixty y:=hb y (by simp)
 have HNF:=h_ (hN.nf h);have HNN:=h_ hN;clear hN hl hb;have R0:=h_ h;have K0:=h_ (Keeps.refl K.foot w);have HN:=h_ (cells_nb K w v h);have HQ:=h_ (show la≠K.bb from fun e=>HNF.out (.inr (.inr (.inl e))))
 have c3:=R0.out.m3;unfold VM.two2 VM.heapOf;simp only [List.getD_cons_zero,List.getD_cons_succ]
 have HP:=h_ fun V (hV:RFv V K v)=>fv_resize K V v x y hV
 generalize Heap.resize v.x.mem v.hlo v.hto x y=q at HP ⊢;obtain ⟨m,a,e⟩:=q;simp only at HP ⊢
 generalize v.mem m=v1 at HP ⊢;have HP2:=h_ fun V (hV:RFv V K v1) b=>fv_push2p K V v1 b e 2 hV
 clear h hd;by_cases h1:e=0
 · subst h1
   rw [if_neg (by simp)]
   go_enter Tryz.func340,Tryz.ntmps340
   go_wp2_with fail
   go_region_held3 (fun w'=>w'.cell? ⟨K.mb,3,none⟩=some (.pointer (some ⟨K.hb,0,none⟩))∧w'.cell? ⟨la,0,none⟩=some (.int .i64 x)∧w'.cell? ⟨la,1,none⟩=some (.int .i64 y))
    (first | go_keep | exact ⟨t3,tq,tr⟩)
    (first | (go_at_call 341;refine (HP.out w.drew (R0.out.keeps0 (Keeps.drew _ _))).mono ?_;rintro e w1 ⟨rfl,r1,k1⟩;dsimp only;have t3:=k1.cell c3 HN.out.1;have tq:=k1.cell q0 HQ.out;have tr:=k1.cell q1 HQ.out))
   have R1:=h_ r1;have K1:=h_ ((Keeps.drew K.foot w).trans (foot_bb K k1));have q0':=tq;clear tr t3 r1 k1 c3;have c1:=R1.out.m1;go_wp2_with fail;refine (HP2.out w1 R1.out a).mono ?_;rintro e w2 ⟨rfl,r2,k2⟩;have R2:=h_ r2;have K2:=h_ (K1.out.trans k2);clear r2 k2
   try clear c1;try clear c3
   go_wp2_with fail;go_ret
   exact ⟨rfl,R2.out,K2.out⟩
 · rw [if_pos h1]
   have d1:(e != 0)=true:=by simp [h1]
   clear h1
   go_enter Tryz.func340,Tryz.ntmps340
   go_wp2_with fail
   go_region_held3 (fun w'=>w'.cell? ⟨K.mb,3,none⟩=some (.pointer (some ⟨K.hb,0,none⟩))∧w'.cell? ⟨la,0,none⟩=some (.int .i64 x)∧w'.cell? ⟨la,1,none⟩=some (.int .i64 y))
    (first | go_keep | exact ⟨t3,tq,tr⟩)
    (first | (go_at_call 341;refine (HP.out w.drew (R0.out.keeps0 (Keeps.drew _ _))).mono ?_;rintro e w1 ⟨rfl,r1,k1⟩;dsimp only;have t3:=k1.cell c3 HN.out.1;have tq:=k1.cell q0 HQ.out;have tr:=k1.cell q1 HQ.out))
   have R1:=h_ r1;have K1:=h_ ((Keeps.drew K.foot w).trans (foot_bb K k1));have q0':=tq;clear tr t3 r1 k1 c3;have c1:=R1.out.m1;go_wp2_with fail;refine (HP2.out w1 R1.out x).mono ?_;rintro e w2 ⟨rfl,r2,k2⟩;have R2:=h_ r2;have K2:=h_ (K1.out.trans k2);clear r2 k2
   try clear c1;try clear c3
   go_wp2_with fail;go_ret
   exact ⟨rfl,R2.out,K2.out⟩
theorem do_addstore (D:Int):DoOk D 2 330 (VM.two2 fun v n a=>if (v.cell a).2≠0 then (v,(v.cell a).2) else v.setCell a (wrap64 ((v.cell a).1+n))):=by
 refine ⟨fun args w=>Tryz.call330 args w,?_⟩
 intro K w v la c L h hd hN hl hb;obtain ⟨x,y,rfl⟩:∃ x y,L=[x,y]:=by match L,hl with | [x,y],_=>exact ⟨x,y,rfl⟩
 have q0:w.cell? ⟨la,0,none⟩=some (.int .i64 x):=hN.cell (i:=0) (by simp)
 have q1:w.cell? ⟨la,1,none⟩=some (.int .i64 y):=hN.cell (i:=1) (by simp)
 have hx:Sixty x:=hb x (by simp)
 have hy:Sixty y:=hb y (by simp)
 have HNF:=h_ (hN.nf h);have HNN:=h_ hN;clear hN hl hb;have R0:=h_ h;have K0:=h_ (Keeps.refl K.foot w);have HN:=h_ (cells_nb K w v h);have HQ:=h_ (show la≠K.bb from fun e=>HNF.out (.inr (.inr (.inl e))))
 have y0:=fun (q:Stay w)=>q.2.cell h.m0 id
 have ys:=fun (q:Stay w)=>q.2.cell h.ms id
 have yq:=fun (q:Stay w)=>q.2.cell q1 id
 unfold VM.two2;simp only [List.getD_cons_zero,List.getD_cons_succ]
 have HC:=h_ fun (q:Stay w)=>(fv_cell K q.1 v y (h.keeps0 q.2)).mono (fun e w' (h:_∧_)=>(⟨h.1,h.2 ▸ Keeps.refl (fun _=>False) _⟩:_∧Keeps (fun _=>False) q.1 w'))
 have HP:=h_ fun V (hV:RFv V K v) n=>fv_setCellb K V v y n hV
 generalize v.cell y=c at HC ⊢;obtain ⟨n,e⟩:=c;simp only at HC ⊢
 clear h hd;by_cases h1:e=0
 · subst h1
   rw [if_neg (by simp)]
   obtain ⟨z,hz⟩:∃ z,z=wrap64 (n+x):=⟨_,rfl⟩;rw [← hz];have HZ:=h_ fun V hV=>HP.out V hV z
   clear HP;generalize v.setCell y z=q at HZ ⊢;have hz':IntKind.i64.wrap (n+x)=z:=by rw [hz];exact IntWalk.i64_left _
   clear hz
   go_enter Tryz.func330,Tryz.ntmps330
   go_wp2_with fail;refine Go.Proofs.K.wp_region_calm ?calm1a ?calm1b ?_
   case calm1a=>kernel_rfl
   case calm1b=>kernel_rfl
   repeat ((with_reducible refine wpQuiet_step ?_);intro Kq hKq;go_simp;first | ((with_reducible refine hKq _ ?_);clear hKq Kq) | (refine hKq _ ?_;clear hKq Kq) | (apply Exists.intro;refine ⟨fun _=>?_,hKq _ ?_⟩;(first | exact Go.Proofs.K.calm_of (HC.out _));clear hKq Kq))
   with_reducible refine wpQuiet_nil ?_
   intro w1 hw';obtain ⟨⟨wq,kq⟩,hw''⟩:=hw';subst hw'';have R1:=h_ (R0.out.keeps0 kq);have K1:=h_ (foot0 K kq);have q0':=kq.cell q0 id;have q1':=kq.cell q1 id;clear y0 ys yq kq HC q0 q1;have c0:=R1.out.m0;have cs:=R1.out.ms;go_wp2_with fail
   go_region_held3 (fun w'=>w'.cell? ⟨K.mb,0,none⟩=some (.pointer (some ⟨K.s,0,none⟩))∧w'.cell? ⟨K.s,0,none⟩=some (.pointer (some ⟨K.b,0,none⟩))∧w'.cell? ⟨la,0,none⟩=some (.int .i64 x)∧w'.cell? ⟨la,1,none⟩=some (.int .i64 y))
    (first | go_keep | exact ⟨t0,ts,tq,tr⟩)
    (first | (go_at_call 85;refine (HZ.out w1.drew (R1.out.keeps0 (Keeps.drew _ _))).mono ?_;rintro e w2 ⟨rfl,r2,k2⟩;dsimp only;have t0:=k2.cell c0 HN.out.1;have ts:=k2.cell cs HN.out.2.1;have tq:=k2.cell q0' HQ.out;have tr:=k2.cell q1' HQ.out))
   have R2:=h_ r2;have K2:=h_ ((K1.out.trans (Keeps.drew K.foot w1)).trans (foot_bb K k2));clear t0 ts tq tr r2 k2;go_wp2_with fail;go_ret
   exact ⟨rfl,R2.out,K2.out⟩
 · rw [if_pos h1]
   have d1:(e != 0)=true:=by simp [h1]
   clear h1 HP
   go_enter Tryz.func330,Tryz.ntmps330
   go_wp2_with fail;refine Go.Proofs.K.wp_region_calm ?calm2a ?calm2b ?_
   case calm2a=>kernel_rfl
   case calm2b=>kernel_rfl
   repeat ((with_reducible refine wpQuiet_step ?_);intro Kq hKq;go_simp;first | ((with_reducible refine hKq _ ?_);clear hKq Kq) | (refine hKq _ ?_;clear hKq Kq) | (apply Exists.intro;refine ⟨fun _=>?_,hKq _ ?_⟩;(first | exact Go.Proofs.K.calm_of (HC.out _));clear hKq Kq))
   with_reducible refine wpQuiet_nil ?_
   intro w1 hw';obtain ⟨⟨wq,kq⟩,hw''⟩:=hw';subst hw'';have R1:=h_ (R0.out.keeps0 kq);have K1:=h_ (foot0 K kq);clear y0 ys yq kq HC;go_wp2_with fail;go_ret
   exact ⟨rfl,R1.out,K1.out⟩
section
variable (K:Bk) (w:World) (v:VM)
theorem fv_look (D:Int) (f:Nat) (R:VM→Int→Int × Int) (ok:ReadOk f R) (la c g:Nat) (L:List Int) (h:RFv w K v) (xg:K.X g) (hg:w.cell? ⟨g,0,none⟩=some (fnV f)) (hN:Nums w la L) (hl:L.length=1) (hb:∀ x ∈ L,Sixty x) :
 Calls Tryz.prog 413 #[.pointer (some ⟨K.mb,0,none⟩),.slice (some ⟨la,0,none⟩) 1 c,.pointer (some ⟨g,0,none⟩)] w (PV K w (VM.lookOf R v L)):=by
 obtain ⟨x,rfl⟩:∃ x,L=[x]:=List.length_eq_one_iff.1 hl;have hent:∀ (args:Array Value) (w:World),(callFunc f args).run Tryz.prog w=.ok (.enter f args) w:=ok.ent;have q0:w.cell? ⟨la,0,none⟩=some (.int .i64 x):=hN.cell (i:=0) (by simp)
 have hx:Sixty x:=hb x (by simp)
 have HNF:=h_ (hN.nf h);have HC:=h_ fun (q:Stay w)=>ok.ok K q.1 v x (h.keeps0 q.2) hx
 have hs:VM.lookOf R v [x]=if (R v x).2≠0 then (v,(R v x).2) else v.push [(R v x).1]:=rfl
 generalize VM.lookOf R v [x]=Q at hs ⊢;generalize R v x=r at hs HC;obtain ⟨n,e⟩:=r;simp only at hs HC
 have HS:=h_ hs;have yg:=fun (q:Stay w)=>q.2.cell hg id
 have yq:=fun (q:Stay w)=>q.2.cell q0 id
 unfold fnV at yg hg;have R0:=h_ h;have K0:=h_ (Keeps.refl K.foot w);clear h hs hN hl hb ok;by_cases h1:e=0
 · subst h1
   have hs:=HS.out;rw [if_neg (by simp)] at hs
   subst hs;clear HS;have HP:=h_ fun V (hV:RFv V K v)=>fv_push1p K V v n 2 hV
   go_enter Tryz.func413,Tryz.ntmps413
   go_wp2_with fail;refine Go.Proofs.K.wp_region_calm ?calm3a ?calm3b ?_
   case calm3a=>kernel_rfl
   case calm3b=>kernel_rfl
   repeat ((with_reducible refine wpQuiet_step ?_);intro Kq hKq;go_simp;first | ((with_reducible refine hKq _ ?_);clear hKq Kq) | (refine hKq _ ?_;clear hKq Kq) | (apply Exists.intro;refine ⟨fun _=>?_,hKq _ ?_⟩;(first | exact Go.Proofs.K.calm_of (HC.out _));clear hKq Kq))
   with_reducible refine wpQuiet_nil ?_
   intro w1 hw';obtain ⟨⟨wq,kq⟩,hw''⟩:=hw';subst hw'';have R1:=h_ (R0.out.keeps0 kq);have K1:=h_ (foot0 K kq);clear yg yq kq HC;have c1:=R1.out.m1;go_wp2_with fail;refine (HP.out w1 R1.out).mono ?_;rintro e w2 ⟨rfl,r2,k2⟩;have R2:=h_ r2;have K2:=h_ (K1.out.trans k2);clear r2 k2
   try clear c1
   go_wp2_with fail;go_ret
   exact ⟨rfl,R2.out,K2.out⟩
 · have d1:(e != 0)=true:=by simp [h1]
   have hs:=HS.out;rw [if_pos h1] at hs;subst hs;clear HS h1
   go_enter Tryz.func413,Tryz.ntmps413
   go_wp2_with fail;refine Go.Proofs.K.wp_region_calm ?calm4a ?calm4b ?_
   case calm4a=>kernel_rfl
   case calm4b=>kernel_rfl
   repeat ((with_reducible refine wpQuiet_step ?_);intro Kq hKq;go_simp;first | ((with_reducible refine hKq _ ?_);clear hKq Kq) | (refine hKq _ ?_;clear hKq Kq) | (apply Exists.intro;refine ⟨fun _=>?_,hKq _ ?_⟩;(first | exact Go.Proofs.K.calm_of (HC.out _));clear hKq Kq))
   with_reducible refine wpQuiet_nil ?_
   intro w1 hw';obtain ⟨⟨wq,kq⟩,hw''⟩:=hw';subst hw'';have R1:=h_ (R0.out.keeps0 kq);have K1:=h_ (foot0 K kq);clear yg yq kq HC;go_wp2_with fail;go_ret
   exact ⟨rfl,R1.out,K1.out⟩
end
theorem u8_byte (x:Int):IntKind.u8.wrap x=((UInt8.ofNat (x % 256).toNat).toNat:Int):=by
 rw [IntKind.wrap_u8];have:(x % 256).toNat<256:=by omega
 rw [UInt8.toNat_ofNat_of_lt' this];omega
theorem do_emit (D:Int):DoOk D 1 342 (VM.one1 fun v n=>(v.put [UInt8.ofNat (n % 256).toNat],0)):=by
 refine ⟨fun args w=>Tryz.call342 args w,?_⟩
 intro K w v la c L h hd hN hl hb;obtain ⟨x,rfl⟩:∃ x,L=[x]:=List.length_eq_one_iff.1 hl;have q0:w.cell? ⟨la,0,none⟩=some (.int .i64 x):=hN.cell (i:=0) (by simp)
 have hx:Sixty x:=hb x (by simp)
 have HNF:=h_ (hN.nf h);have HNN:=h_ hN;clear hN hl hb;have R0:=h_ h;have K0:=h_ (Keeps.refl K.foot w);unfold VM.one1;simp only [List.getD_cons_zero]
 have hy:=u8_byte x;generalize UInt8.ofNat (x % 256).toNat=y at hy ⊢
 have hcv:=run_convert_bytes_back (P:=Tryz.prog) (w.alloc (.cells #[.int .u8 (y.toNat:Int)] 5)) 143 9 5 ⟨w.heap.size,0,none⟩ 1 [y] Tryz.underlying143 Tryz.underlying5 Tryz.underlying9 (fun j hj=>by
  obtain rfl:j=0:=by simpa using hj
  exact cell_of (halloc_at w _) rfl)
 simp only [List.length_singleton] at hcv
 have R1:=h_ (h.keeps0 (Keeps.alloc _ w (.cells #[.int .u8 (y.toNat:Int)] 5)));have K1:=h_ (Keeps.alloc K.foot w (.cells #[.int .u8 (y.toNat:Int)] 5));have HP:=h_ (fv_put K _ v [y] R1.out (by simp))
 generalize v.put [y]=q at HP ⊢;clear h hd
 go_enter Tryz.func342,Tryz.ntmps342
 go_wp2_with fail;refine (HP.out).mono ?_;rintro e w2 ⟨rfl,r2,k2⟩;have R2:=h_ r2;have K2:=h_ (K1.out.trans k2);clear r2 k2
 skip
 go_wp2_with fail;go_ret
 exact ⟨rfl,R2.out,K2.out⟩
theorem plain_cr:PlainOk 343 (fun v=>(v.put [10],0)):=by
 refine ⟨fun args w=>Tryz.call343 args w,?_⟩
 intro K w v h;have HP:=h_ (fv_put K w v [10] h (by simp))
 generalize v.put [10]=q at HP ⊢;have R0:=h_ h;have K0:=h_ (Keeps.refl K.foot w);clear h
 go_enter Tryz.func343,Tryz.ntmps343
 go_wp2_with fail;refine (HP.out).mono ?_;rintro e w1 ⟨rfl,r1,k1⟩;have R1:=h_ r1;have K1:=h_ (K0.out.trans k1);clear r1 k1
 skip
 go_wp2_with fail;go_ret
 exact ⟨rfl,R1.out,K1.out⟩
theorem plain_space:PlainOk 344 (fun v=>(v.put [32],0)):=by
 refine ⟨fun args w=>Tryz.call344 args w,?_⟩
 intro K w v h;have HP:=h_ (fv_put K w v [32] h (by simp))
 generalize v.put [32]=q at HP ⊢;have R0:=h_ h;have K0:=h_ (Keeps.refl K.foot w);clear h
 go_enter Tryz.func344,Tryz.ntmps344
 go_wp2_with fail;refine (HP.out).mono ?_;rintro e w1 ⟨rfl,r1,k1⟩;have R1:=h_ r1;have K1:=h_ (K0.out.trans k1);clear r1 k1
 skip
 go_wp2_with fail;go_ret
 exact ⟨rfl,R1.out,K1.out⟩
theorem do_type (D:Int):DoOk D 2 345 (VM.two2 fun v a n=>(v.put (v.x.mem.text a n).1,(v.x.mem.text a n).2)):=by
 refine ⟨fun args w=>Tryz.call345 args w,?_⟩
 intro K w v la c L h hd hN hl hb;obtain ⟨x,y,rfl⟩:∃ x y,L=[x,y]:=by match L,hl with | [x,y],_=>exact ⟨x,y,rfl⟩
 have q0:w.cell? ⟨la,0,none⟩=some (.int .i64 x):=hN.cell (i:=0) (by simp)
 have q1:w.cell? ⟨la,1,none⟩=some (.int .i64 y):=hN.cell (i:=1) (by simp)
 have hx:Sixty x:=hb x (by simp)
 have hy:Sixty y:=hb y (by simp)
 have HNF:=h_ (hN.nf h);have HNN:=h_ hN;clear hN hl hb;have R0:=h_ h;have K0:=h_ (Keeps.refl K.foot w);have y0:=fun (q:Stay w)=>q.2.cell h.m0 id
 have ys:=fun (q:Stay w)=>q.2.cell h.ms id
 have yq:=fun (q:Stay w)=>q.2.cell q0 id
 have yr:=fun (q:Stay w)=>q.2.cell q1 id
 unfold VM.two2;simp only [List.getD_cons_zero,List.getD_cons_succ]
 have HC:=h_ fun (q:Stay w)=>(mem_text q.1 K.b K.bb v.x.mem x y (h.keeps0 q.2).vm.sp.mem).mono (fun e w' (h:_∧_)=>(⟨h.1,h.2 ▸ Keeps.refl (fun _=>False) _⟩:_∧Keeps (fun _=>False) q.1 w'))
 have hl:=v.x.mem.text_le x y;have hl2:=h.vm.sp.mem.le;unfold strV at HC;generalize v.x.mem.text x y=t at HC hl ⊢;obtain ⟨t,e⟩:=t;simp only at HC hl ⊢
 have HP:=h_ fun V (hV:RFv V K v)=>fv_put K V v t hV (by omega)
 generalize v.put t=q at HP ⊢;clear h hd hl hl2
 go_enter Tryz.func345,Tryz.ntmps345
 go_wp2_with fail;refine Go.Proofs.K.wp_region_calm ?calm1a ?calm1b ?_
 case calm1a=>kernel_rfl
 case calm1b=>kernel_rfl
 repeat ((with_reducible refine wpQuiet_step ?_);intro Kq hKq;go_simp;first | ((with_reducible refine hKq _ ?_);clear hKq Kq) | (refine hKq _ ?_;clear hKq Kq) | (apply Exists.intro;refine ⟨fun _=>?_,hKq _ ?_⟩;(first | exact Go.Proofs.K.calm_of (HC.out _));clear hKq Kq))
 with_reducible refine wpQuiet_nil ?_
 intro w1 hw';obtain ⟨⟨wq,kq⟩,hw''⟩:=hw';subst hw'';have R1:=h_ (R0.out.keeps0 kq);have K1:=h_ (foot0 K kq);clear y0 ys yq yr kq HC;go_wp2_with fail;refine (HP.out w1 R1.out).mono ?_;rintro e w2 ⟨rfl,r2,k2⟩;have R2:=h_ r2;have K2:=h_ (K1.out.trans k2);clear r2 k2
 skip
 go_wp2_with fail;go_ret
 exact ⟨rfl,R2.out,K2.out⟩
theorem do_dot (D:Int):DoOk D 1 346 (VM.one1 fun v n=>v.shown (Num.show_ n v.baseN)):=by
 refine ⟨fun args w=>Tryz.call346 args w,?_⟩
 intro K w v la c L h hd hN hl hb;obtain ⟨x,rfl⟩:∃ x,L=[x]:=List.length_eq_one_iff.1 hl;have q0:w.cell? ⟨la,0,none⟩=some (.int .i64 x):=hN.cell (i:=0) (by simp)
 have hx:Sixty x:=hb x (by simp)
 have HNF:=h_ (hN.nf h);have HNN:=h_ hN;clear hN hl hb;have R0:=h_ h;have K0:=h_ (Keeps.refl K.foot w);unfold VM.one1;simp only [List.getD_cons_zero]
 have HB:=h_ (fv_base K w.drew v (h.keeps0 (Keeps.drew _ _)));generalize v.baseN=bs at HB ⊢;have HN:=h_ fun V=>num_show_all V x bs hx.1 hx.2
 have hl:=show_len x bs;generalize Num.show_ x bs=t at HN hl ⊢;have HS:=h_ fun V (R:RFv V K v)=>fv_shown K V v t R (by omega)
 generalize v.shown t=q at HS ⊢;clear h hd hl
 go_enter Tryz.func346,Tryz.ntmps346
 go_wp2_with fail
 go_region_held3 (fun w'=>w'.cell? ⟨la,0,none⟩=some (.int .i64 x))
  (first | go_keep | exact k6.cell q5 HNF.out)
  (first
    | (go_at_call 140;refine HB.out.mono ?_;rintro e w4 ⟨rfl,k4⟩;dsimp only
       have q4:w4.cell? ⟨la,0,none⟩=some (.int .i64 x):=k4.cell q0 id)
    | (go_at_call 39;refine (HN.out w4).mono ?_;rintro e w5 ⟨rfl,k5⟩;dsimp only
       have q5:w5.cell? ⟨la,0,none⟩=some (.int .i64 x):=k5.cell q4 id)
    | (go_at_call 347;refine (HS.out w5 ((R0.out.keeps0 ((kd_ w).trans k4)).keeps0 k5)).mono ?_;rintro e w6 ⟨rfl,r6,k6⟩;dsimp only))
 have R1:=h_ r6;have K1:=h_ ((foot0 K (((Keeps.drew _ w).trans k4).trans k5)).trans k6);clear r6 k6 k5 k4;go_wp2_with fail;go_ret
 exact ⟨rfl,R1.out,K1.out⟩
theorem do_udot (D:Int):DoOk D 1 348 (VM.one1 fun v n=>v.shown (Num.unsigned (VM.unsig n) v.baseN)):=by
 refine ⟨fun args w=>Tryz.call348 args w,?_⟩
 intro K w v la c L h hd hN hl hb;obtain ⟨x,rfl⟩:∃ x,L=[x]:=List.length_eq_one_iff.1 hl;have q0:w.cell? ⟨la,0,none⟩=some (.int .i64 x):=hN.cell (i:=0) (by simp)
 have hx:Sixty x:=hb x (by simp)
 have HNF:=h_ (hN.nf h);have HNN:=h_ hN;clear hN hl hb;have R0:=h_ h;have K0:=h_ (Keeps.refl K.foot w);unfold VM.one1;simp only [List.getD_cons_zero]
 have HB:=h_ (fv_base K w.drew v (h.keeps0 (Keeps.drew _ _)));generalize v.baseN=bs at HB ⊢;obtain ⟨k,hk⟩:∃ k:Nat,k=(x % 18446744073709551616).toNat:=⟨_,rfl⟩;have hu:VM.unsig x=(k:Int):=by unfold VM.unsig;omega
 have hc:IntKind.u64.wrap x=(k:Int):=by rw [IntKind.wrap_u64];omega
 rw [hu];have HN:=h_ fun V=>num_unsigned_all V k bs (by omega)
 have hl:=unsigned_len k bs;generalize Num.unsigned k bs=t at HN hl ⊢;have HS:=h_ fun V (R:RFv V K v)=>fv_shown K V v t R (by omega)
 generalize v.shown t=q at HS ⊢;clear h hd hl hk hu
 go_enter Tryz.func348,Tryz.ntmps348
 go_wp2_with fail
 go_region_held3 (fun w'=>w'.cell? ⟨la,0,none⟩=some (.int .i64 x))
  (first | go_keep | exact k6.cell q5 HNF.out)
  (first
    | (go_at_call 140;refine HB.out.mono ?_;rintro e w4 ⟨rfl,k4⟩;dsimp only
       have q4:w4.cell? ⟨la,0,none⟩=some (.int .i64 x):=k4.cell q0 id)
    | (go_at_call 91;refine (HN.out w4).mono ?_;rintro e w5 ⟨rfl,k5⟩;dsimp only
       have q5:w5.cell? ⟨la,0,none⟩=some (.int .i64 x):=k5.cell q4 id)
    | (go_at_call 347;refine (HS.out w5 ((R0.out.keeps0 ((kd_ w).trans k4)).keeps0 k5)).mono ?_;rintro e w6 ⟨rfl,r6,k6⟩;dsimp only))
 have R1:=h_ r6;have K1:=h_ ((foot0 K (((Keeps.drew _ w).trans k4).trans k5)).trans k6);clear r6 k6 k5 k4;go_wp2_with fail;go_ret
 exact ⟨rfl,R1.out,K1.out⟩
theorem get_key:GetOk 349 (fun v=>match v.inp with | []=>(v,-1,0) | c :: r=>({ v with inp:=r },c.toNat,0)):=by
 refine ⟨fun args w=>Tryz.call349 args w,?_⟩
 intro K w v h;have c12:=h.m12;have f12:=h.free 12;have hin:=h.ok.inp
 cases hi:v.inp with
 | nil =>
  rw [hi] at c12;simp only [hi]
  have R0:=h_ h;have K0:=h_ (Keeps.refl K.foot w);clear h hi hin f12
  go_enter Tryz.func349,Tryz.ntmps349
  go_wp2_with fail;go_wp2_with fail;go_ret2
  exact ⟨rfl,R0.out,K0.out⟩
 | cons b r =>
  rw [hi] at c12 hin;simp only [hi]
  rw [List.length_cons] at hin;have R1:=h_ (h.setInp r (by omega))
  have K1:=h_ (foot_mb K (Keeps.setCell w ⟨K.mb,12,none⟩ (.string ⟨r.toArray⟩) (fun _=>rfl)))
  have hx:=str_extract (b :: r) 1 (r.length+1) (by simp)
  simp only [List.drop_succ_cons,List.drop_zero,Nat.add_sub_cancel,List.take_length] at hx
  have R0:=h_ h;have K0:=h_ (Keeps.refl K.foot w);clear h hi
  go_enter Tryz.func349,Tryz.ntmps349
  go_wp2_with fail;go_wp2_with fail;go_ret2
  refine ⟨?_,R1.out,K1.out⟩
  show Ending.returned (.tuple #[.int .i64 (wrap64 ((b.toNat:Nat):Int)),.int .i64 0])=_
  rw [IntWalk.wrap64_in _ (by have:=b.toNat_lt;omega)]
theorem get_self:GetOk 355 (fun v=>(v,v.self,0)):=by
 refine ⟨fun args w=>Tryz.call355 args w,?_⟩
 intro K w v h;have R0:=h_ h;have K0:=h_ (Keeps.refl K.foot w);have c6:=R0.out.m6;clear h
 go_enter Tryz.func355,Tryz.ntmps355
 go_wp2_with fail;go_wp2_with fail;go_ret2
 exact ⟨rfl,R0.out,K0.out⟩
section
variable (K:Bk) (w:World) (v:VM)
theorem VM.send_eq (a sel:Int):v.send a sel=if (Obj.send v.x.mem v.root a sel).2.2≠0 then (v,(Obj.send v.x.mem v.root a sel).2.2) else v.method (Obj.send v.x.mem v.root a sel).1 a:=rfl
theorem fv_send (a sel:Int) (h:RFv w K v):Calls Tryz.prog 361 #[.pointer (some ⟨K.mb,0,none⟩),.int .i64 a,.int .i64 sel] w (PV K w (v.send a sel)):=by
 have hs:=VM.send_eq v a sel;generalize v.send a sel=Q at hs ⊢;have HC:=h_ fun (q:Stay w)=>obj_send q.1 K.b K.bb v.x.mem v.root a sel (h.keeps0 q.2).vm.sp.mem
 generalize Obj.send v.x.mem v.root a sel=r at hs HC;obtain ⟨xt,n,e⟩:=r;simp only at hs HC
 have HP:=h_ fun V (hV:RFv V K v)=>fv_method K V v xt a hV
 have HS:=h_ hs;have y0:=fun (q:Stay w)=>q.2.cell h.m0 id
 have y7:=fun (q:Stay w)=>q.2.cell h.m7 id
 have ys:=fun (q:Stay w)=>q.2.cell h.ms id
 have R0:=h_ h;have K0:=h_ (Keeps.refl K.foot w);clear h hs;by_cases h1:e=0
 · subst h1
   have hs:=HS.out;rw [if_neg (by simp)] at hs
   subst hs;clear HS
   go_enter Tryz.func361,Tryz.ntmps361
   go_wp2_with fail;refine Go.Proofs.K.wp_region_calm ?calm1a ?calm1b ?_
   case calm1a=>kernel_rfl
   case calm1b=>kernel_rfl
   repeat ((with_reducible refine wpQuiet_step ?_);intro Kq hKq;go_simp;first | ((with_reducible refine hKq _ ?_);clear hKq Kq) | (refine hKq _ ?_;clear hKq Kq) | (apply Exists.intro;refine ⟨fun _=>?_,hKq _ ?_⟩;(first | exact Go.Proofs.K.calm_of (HC.out _));clear hKq Kq))
   with_reducible refine wpQuiet_nil ?_
   intro w1 hw';obtain ⟨⟨wq,kq⟩,hw''⟩:=hw';subst hw'';have R1:=h_ (R0.out.keeps0 kq);have K1:=h_ (foot0 K kq);clear y0 y7 ys kq HC;go_wp2_with fail;refine (HP.out w1 R1.out).mono ?_;rintro e w2 ⟨rfl,r2,k2⟩;have R2:=h_ r2;have K2:=h_ (K1.out.trans k2);clear r2 k2
   skip
   go_wp2_with fail;go_ret
   exact ⟨rfl,R2.out,K2.out⟩
 · have d1:(e != 0)=true:=by simp [h1]
   have hs:=HS.out;rw [if_pos h1] at hs;subst hs;clear HS h1 HP
   go_enter Tryz.func361,Tryz.ntmps361
   go_wp2_with fail;refine Go.Proofs.K.wp_region_calm ?calm2a ?calm2b ?_
   case calm2a=>kernel_rfl
   case calm2b=>kernel_rfl
   repeat ((with_reducible refine wpQuiet_step ?_);intro Kq hKq;go_simp;first | ((with_reducible refine hKq _ ?_);clear hKq Kq) | (refine hKq _ ?_;clear hKq Kq) | (apply Exists.intro;refine ⟨fun _=>?_,hKq _ ?_⟩;(first | exact Go.Proofs.K.calm_of (HC.out _));clear hKq Kq))
   with_reducible refine wpQuiet_nil ?_
   intro w1 hw';obtain ⟨⟨wq,kq⟩,hw''⟩:=hw';subst hw'';have R1:=h_ (R0.out.keeps0 kq);have K1:=h_ (foot0 K kq);clear y0 y7 ys kq HC;go_wp2_with fail;go_ret
   exact ⟨rfl,R1.out,K1.out⟩
end
theorem do_class (D:Int):DoOk D 1 358 (VM.one1 fun v a=>if (Obj.cls v.x.mem v.root a).2≠0 then (v,(Obj.cls v.x.mem v.root a).2) else v.push [(Obj.cls v.x.mem v.root a).1]):=by
 refine ⟨fun args w=>Tryz.call358 args w,?_⟩
 intro K w v la c L h hd hN hl hb;obtain ⟨x,rfl⟩:∃ x,L=[x]:=List.length_eq_one_iff.1 hl;have q0:w.cell? ⟨la,0,none⟩=some (.int .i64 x):=hN.cell (i:=0) (by simp)
 have hx:Sixty x:=hb x (by simp)
 have HNF:=h_ (hN.nf h);have HNN:=h_ hN;clear hN hl hb;have R0:=h_ h;have K0:=h_ (Keeps.refl K.foot w);have y0:=fun (q:Stay w)=>q.2.cell h.m0 id
 have y7:=fun (q:Stay w)=>q.2.cell h.m7 id
 have ys:=fun (q:Stay w)=>q.2.cell h.ms id
 have yq:=fun (q:Stay w)=>q.2.cell q0 id
 unfold VM.one1;simp only [List.getD_cons_zero]
 have HC:=h_ fun (q:Stay w)=>obj_class q.1 K.b K.bb v.x.mem v.root x (h.keeps0 q.2).vm.sp.mem
 generalize Obj.cls v.x.mem v.root x=r at HC ⊢;obtain ⟨c1,e⟩:=r;simp only at HC ⊢
 clear h hd;by_cases h1:e=0
 · subst h1
   rw [if_neg (by simp)]
   have HP:=h_ fun V (hV:RFv V K v)=>fv_push1p K V v c1 2 hV
   go_enter Tryz.func358,Tryz.ntmps358
   go_wp2_with fail;refine Go.Proofs.K.wp_region_calm ?calm3a ?calm3b ?_
   case calm3a=>kernel_rfl
   case calm3b=>kernel_rfl
   repeat ((with_reducible refine wpQuiet_step ?_);intro Kq hKq;go_simp;first | ((with_reducible refine hKq _ ?_);clear hKq Kq) | (refine hKq _ ?_;clear hKq Kq) | (apply Exists.intro;refine ⟨fun _=>?_,hKq _ ?_⟩;(first | exact Go.Proofs.K.calm_of (HC.out _));clear hKq Kq))
   with_reducible refine wpQuiet_nil ?_
   intro w1 hw';obtain ⟨⟨wq,kq⟩,hw''⟩:=hw';subst hw'';have R1:=h_ (R0.out.keeps0 kq);have K1:=h_ (foot0 K kq);clear y0 y7 ys yq kq HC;have c1:=R1.out.m1;go_wp2_with fail;refine (HP.out w1 R1.out).mono ?_;rintro e w2 ⟨rfl,r2,k2⟩;have R2:=h_ r2;have K2:=h_ (K1.out.trans k2);clear r2 k2
   try clear c1
   go_wp2_with fail;go_ret
   exact ⟨rfl,R2.out,K2.out⟩
 · have d1:(e != 0)=true:=by simp [h1]
   rw [if_pos h1];clear h1
   go_enter Tryz.func358,Tryz.ntmps358
   go_wp2_with fail;refine Go.Proofs.K.wp_region_calm ?calm4a ?calm4b ?_
   case calm4a=>kernel_rfl
   case calm4b=>kernel_rfl
   repeat ((with_reducible refine wpQuiet_step ?_);intro Kq hKq;go_simp;first | ((with_reducible refine hKq _ ?_);clear hKq Kq) | (refine hKq _ ?_;clear hKq Kq) | (apply Exists.intro;refine ⟨fun _=>?_,hKq _ ?_⟩;(first | exact Go.Proofs.K.calm_of (HC.out _));clear hKq Kq))
   with_reducible refine wpQuiet_nil ?_
   intro w1 hw';obtain ⟨⟨wq,kq⟩,hw''⟩:=hw';subst hw'';have R1:=h_ (R0.out.keeps0 kq);have K1:=h_ (foot0 K kq);clear y0 y7 ys yq kq HC;go_wp2_with fail;go_ret
   exact ⟨rfl,R1.out,K1.out⟩
theorem do_send (D:Int):DoOk D 1 360 (VM.one1 fun v a=>let q:=v.inline;if q.2.2≠0 then (q.1,q.2.2) else q.1.send a q.2.1):=by
 refine ⟨fun args w=>Tryz.call360 args w,?_⟩
 intro K w v la c L h hd hN hl hb;obtain ⟨x,rfl⟩:∃ x,L=[x]:=List.length_eq_one_iff.1 hl;have q0:w.cell? ⟨la,0,none⟩=some (.int .i64 x):=hN.cell (i:=0) (by simp)
 have hx:Sixty x:=hb x (by simp)
 have HNF:=h_ (hN.nf h);have HNN:=h_ hN;clear hN hl hb;have R0:=h_ h;have K0:=h_ (Keeps.refl K.foot w);have HP:=h_ (fv_inline K w v h);clear h hd;unfold VM.one1;simp only [List.getD_cons_zero]
 generalize v.inline=q at HP ⊢;obtain ⟨v1,n,e⟩:=q;simp only
 by_cases h1:e=0
 · subst h1
   rw [if_neg (by simp)]
   have HS:=h_ fun V (hV:RFv V K v1)=>fv_send K V v1 x n hV
   generalize v1.send x n=q at HS ⊢
   go_enter Tryz.func360,Tryz.ntmps360
   go_wp2_with fail;refine (HP.out).mono ?_;rintro e w1 ⟨rfl,r1,k1⟩;have R1:=h_ r1;have K1:=h_ (K0.out.trans k1);clear r1 k1
   skip
   have q1:=K1.out.cell q0 HNF.out;go_wp2_with fail;refine (HS.out w1 R1.out).mono ?_;rintro e w2 ⟨rfl,r2,k2⟩;have R2:=h_ r2;have K2:=h_ (K1.out.trans k2);clear r2 k2
   skip
   go_wp2_with fail;go_ret
   exact ⟨rfl,R2.out,K2.out⟩
 · rw [if_pos h1]
   have d1:(e != 0)=true:=by simp [h1]
   clear h1
   go_enter Tryz.func360,Tryz.ntmps360
   go_wp2_with fail;refine (HP.out).mono ?_;rintro e w1 ⟨rfl,r1,k1⟩;have R1:=h_ r1;have K1:=h_ (K0.out.trans k1);clear r1 k1
   skip
   go_wp2_with fail;go_ret
   exact ⟨rfl,R1.out,K1.out⟩
theorem do_method (D:Int):DoOk D 1 362 (VM.one1 fun v a=>let q:=v.inline;if q.2.2≠0 then (q.1,q.2.2) else q.1.method q.2.1 a):=by
 refine ⟨fun args w=>Tryz.call362 args w,?_⟩
 intro K w v la c L h hd hN hl hb;obtain ⟨x,rfl⟩:∃ x,L=[x]:=List.length_eq_one_iff.1 hl;have q0:w.cell? ⟨la,0,none⟩=some (.int .i64 x):=hN.cell (i:=0) (by simp)
 have hx:Sixty x:=hb x (by simp)
 have HNF:=h_ (hN.nf h);have HNN:=h_ hN;clear hN hl hb;have R0:=h_ h;have K0:=h_ (Keeps.refl K.foot w);have HP:=h_ (fv_inline K w v h);clear h hd;unfold VM.one1;simp only [List.getD_cons_zero]
 generalize v.inline=q at HP ⊢;obtain ⟨v1,n,e⟩:=q;simp only
 by_cases h1:e=0
 · subst h1
   rw [if_neg (by simp)]
   have HS:=h_ fun V (hV:RFv V K v1)=>fv_method K V v1 n x hV
   generalize v1.method n x=q at HS ⊢
   go_enter Tryz.func362,Tryz.ntmps362
   go_wp2_with fail;refine (HP.out).mono ?_;rintro e w1 ⟨rfl,r1,k1⟩;have R1:=h_ r1;have K1:=h_ (K0.out.trans k1);clear r1 k1
   skip
   have q1:=K1.out.cell q0 HNF.out;go_wp2_with fail;refine (HS.out w1 R1.out).mono ?_;rintro e w2 ⟨rfl,r2,k2⟩;have R2:=h_ r2;have K2:=h_ (K1.out.trans k2);clear r2 k2
   skip
   go_wp2_with fail;go_ret
   exact ⟨rfl,R2.out,K2.out⟩
 · rw [if_pos h1]
   have d1:(e != 0)=true:=by simp [h1]
   clear h1
   go_enter Tryz.func362,Tryz.ntmps362
   go_wp2_with fail;refine (HP.out).mono ?_;rintro e w1 ⟨rfl,r1,k1⟩;have R1:=h_ r1;have K1:=h_ (K0.out.trans k1);clear r1 k1
   skip
   go_wp2_with fail;go_ret
   exact ⟨rfl,R1.out,K1.out⟩
theorem plain_leave:PlainOk 365 (fun v=>if v.r.depth<2 then (v,-6) else
 let q:=v.rpop
 let p:={ q.1 with ip:=q.2.1 }.rpop
 ({ p.1 with self:=p.2.1 },0)):=by
 refine ⟨fun args w=>Tryz.call365 args w,?_⟩
 intro K w v h;have HD:=h_ (fv_rdepth K w v h);have HP:=h_ (fv_rpop K w v h);have R0:=h_ h;have K0:=h_ (Keeps.refl K.foot w);have c2:=R0.out.m2;clear h;by_cases hc:v.r.depth<2
 · simp only [if_pos hc]
   have d1:decide (v.r.depth<2)=true:=decide_eq_true hc;clear hc HP
   go_enter Tryz.func365,Tryz.ntmps365
   go_wp2_with fail;refine (HD.out).mono ?_;rintro e w' ⟨rfl,rfl⟩;go_wp2_with fail;go_ret
   exact ⟨rfl,R0.out,K0.out⟩
 · simp only [if_neg hc]
   have d1:decide (v.r.depth<2)=false:=decide_eq_false hc;clear hc;generalize v.rpop=q at HP ⊢;obtain ⟨v1,n,e⟩:=q;simp only
   have HP2:=h_ fun V (hV:RFv V K { v1 with ip:=n })=>fv_rpop K V { v1 with ip:=n } hV
   generalize VM.rpop { v1 with ip:=n }=q at HP2 ⊢;obtain ⟨v2,m,e2⟩:=q
   go_enter Tryz.func365,Tryz.ntmps365
   go_wp2_with fail;refine (HD.out).mono ?_;rintro e w' ⟨rfl,rfl⟩;go_wp2_with fail;refine (HP.out).mono ?_;rintro e w1 ⟨rfl,r1,k1⟩;have R1:=h_ r1;have K1:=h_ (K0.out.trans k1);clear r1 k1
   try clear c2
   have c2:=R1.out.m2;have c5:=R1.out.m5;have f5:=R1.out.free 5;have R2:=h_ (R1.out.setIp n);have K2:=h_ (K1.out.trans (foot_mb K (Keeps.setCell w1 ⟨K.mb,5,none⟩ (.int .i64 n) (fun _=>rfl))))
   go_wp2_with fail;refine (HP2.out _ R2.out).mono ?_;rintro e w3 ⟨rfl,r3,k3⟩;have R3:=h_ r3;have K3:=h_ (K2.out.trans k3);clear r3 k3
   try clear c2;try clear c5
   have c6:=R3.out.m6;have f6:=R3.out.free 6;have R4:=h_ (R3.out.setSelf m);have K4:=h_ (K3.out.trans (foot_mb K (Keeps.setCell w3 ⟨K.mb,6,none⟩ (.int .i64 m) (fun _=>rfl))))
   go_wp2_with fail;go_ret
   exact ⟨rfl,R4.out,K4.out⟩
theorem obj_heap_size (m:Mem) (lo hi c:Int):(Obj.heap m lo hi c).1.size=m.size:=by
 unfold Obj.heap;split
 · rfl
 · split
   · exact alloc_size _ _ _ _
   · rw [obj_make_size];exact alloc_size _ _ _ _
theorem do_new (D:Int):DoOk D 1 356 (VM.one1 VM.newF):=by
 refine ⟨fun args w=>Tryz.call356 args w,?_⟩
 intro K w v la c L h hd hN hl hb;obtain ⟨x,rfl⟩:∃ x,L=[x]:=List.length_eq_one_iff.1 hl;have q0:w.cell? ⟨la,0,none⟩=some (.int .i64 x):=hN.cell (i:=0) (by simp)
 have hx:Sixty x:=hb x (by simp)
 have HNF:=h_ (hN.nf h);have HNN:=h_ hN;clear hN hl hb;have R0:=h_ h;have K0:=h_ (Keeps.refl K.foot w);have y0:=fun (q:Stay w)=>q.2.cell h.m0 id
 have y7:=fun (q:Stay w)=>q.2.cell h.m7 id
 have ys:=fun (q:Stay w)=>q.2.cell h.ms id
 have yq:=fun (q:Stay w)=>q.2.cell q0 id
 have hs:VM.one1 VM.newF v [x]=if Class.is v.x.mem v.root x=false then (v,-2048) else
  if (Obj.heap v.x.mem v.hlo v.hto x).2.2≠0 then (v.mem (Obj.heap v.x.mem v.hlo v.hto x).1,(Obj.heap v.x.mem v.hlo v.hto x).2.2) else (v.mem (Obj.heap v.x.mem v.hlo v.hto x).1).push [(Obj.heap v.x.mem v.hlo v.hto x).2.1]:=rfl
 generalize VM.one1 VM.newF v [x]=Q at hs ⊢;have HC:=h_ fun (q:Stay w)=>class_is q.1 K.b K.bb v.x.mem v.root x (h.keeps0 q.2).vm.sp.mem
 generalize Class.is v.x.mem v.root x=z at hs HC;have HO:=h_ fun V (R:RFv V K v)=>(obj_heap V K.hb K.b K.bb v.x.mem v.hlo v.hto x R.hpc hx.1 hx.2).mono fun e w' (h:AllocPost _ _ _ _ _ _ V e w')=>(⟨h.1,R.withMem h.2.2 h.2.1.mem (obj_heap_size _ _ _ _),h.2.2⟩:e=.returned (.tuple #[.int .i64 (Obj.heap v.x.mem v.hlo v.hto x).2.1,.int .i64 (Obj.heap v.x.mem v.hlo v.hto x).2.2])∧RFv w' K (v.mem (Obj.heap v.x.mem v.hlo v.hto x).1)∧Keeps (fun g=>g=K.bb) V w')
 generalize Obj.heap v.x.mem v.hlo v.hto x=r at hs HO;obtain ⟨m,a,e⟩:=r;simp only at hs HO
 generalize v.mem m=v1 at hs HO;have HN:=h_ (cells_nb K w v h);have HQ:=h_ (show la≠K.bb from fun e=>HNF.out (.inr (.inr (.inl e))))
 have HS:=h_ hs;clear h hd hs
 cases z with
 | false =>
  have hs:=HS.out;rw [if_pos rfl] at hs;subst hs;clear HS HO
  go_enter Tryz.func356,Tryz.ntmps356
  go_wp2_with fail;refine Go.Proofs.K.wp_region_calm ?calm5a ?calm5b ?_
  case calm5a=>kernel_rfl
  case calm5b=>kernel_rfl
  repeat ((with_reducible refine wpQuiet_step ?_);intro Kq hKq;go_simp;first | ((with_reducible refine hKq _ ?_);clear hKq Kq) | (refine hKq _ ?_;clear hKq Kq) | (apply Exists.intro;refine ⟨fun _=>?_,hKq _ ?_⟩;(first | exact Go.Proofs.K.calm_of (HC.out _));clear hKq Kq))
  with_reducible refine wpQuiet_nil ?_
  intro w1 hw';obtain ⟨⟨wq,kq⟩,hw''⟩:=hw';subst hw'';have R1:=h_ (R0.out.keeps0 kq);have K1:=h_ (foot0 K kq);clear y0 y7 ys yq kq HC;go_wp2_with fail;go_ret
  exact ⟨rfl,R1.out,K1.out⟩
 | true =>
  by_cases h1:e=0
  · subst h1
    have hs:=HS.out;rw [if_neg (by simp),if_neg (by simp)] at hs
    subst hs;clear HS;have HP:=h_ fun V (hV:RFv V K v1)=>fv_push1p K V v1 a 2 hV
    go_enter Tryz.func356,Tryz.ntmps356
    go_wp2_with fail;refine Go.Proofs.K.wp_region_calm ?calm6a ?calm6b ?_
    case calm6a=>kernel_rfl
    case calm6b=>kernel_rfl
    repeat ((with_reducible refine wpQuiet_step ?_);intro Kq hKq;go_simp;first | ((with_reducible refine hKq _ ?_);clear hKq Kq) | (refine hKq _ ?_;clear hKq Kq) | (apply Exists.intro;refine ⟨fun _=>?_,hKq _ ?_⟩;(first | exact Go.Proofs.K.calm_of (HC.out _));clear hKq Kq))
    with_reducible refine wpQuiet_nil ?_
    intro w1 hw';obtain ⟨⟨wq,kq⟩,hw''⟩:=hw';subst hw'';have R1:=h_ (R0.out.keeps0 kq);have K1:=h_ (foot0 K kq);have q1:=kq.cell q0 id;clear y0 y7 ys yq kq HC q0;have c0:=R1.out.m0;have c3:=R1.out.m3;have cs:=R1.out.ms;go_wp2_with fail
    go_region_held3 (fun w'=>w'.cell? ⟨K.mb,0,none⟩=some (.pointer (some ⟨K.s,0,none⟩))∧w'.cell? ⟨K.mb,3,none⟩=some (.pointer (some ⟨K.hb,0,none⟩))∧w'.cell? ⟨K.s,0,none⟩=some (.pointer (some ⟨K.b,0,none⟩))∧w'.cell? ⟨la,0,none⟩=some (.int .i64 x))
     (first | go_keep | exact ⟨t0,t3,ts,tq⟩)
     (first | (go_at_call 357;refine (HO.out w1.drew (R1.out.keeps0 (Keeps.drew _ _))).mono ?_;rintro e w2 ⟨rfl,r2,k2⟩;dsimp only;have t0:=k2.cell c0 HN.out.1;have t3:=k2.cell c3 HN.out.1;have ts:=k2.cell cs HN.out.2.1;have tq:=k2.cell q1 HQ.out))
    have R2:=h_ r2;have K2:=h_ ((K1.out.trans (Keeps.drew K.foot w1)).trans (foot_bb K k2));clear t0 t3 ts tq r2 k2
    try clear c0;try clear c3;try clear cs
    have c1:=R2.out.m1;go_wp2_with fail;refine (HP.out w2 R2.out).mono ?_;rintro e w3 ⟨rfl,r3,k3⟩;have R3:=h_ r3;have K3:=h_ (K2.out.trans k3);clear r3 k3
    try clear c0;try clear c1;try clear c3;try clear cs
    go_wp2_with fail;go_ret
    exact ⟨rfl,R3.out,K3.out⟩
  · have d1:(e != 0)=true:=by simp [h1]
    have hs:=HS.out;rw [if_neg (by simp),if_pos h1] at hs
    subst hs;clear HS h1
    go_enter Tryz.func356,Tryz.ntmps356
    go_wp2_with fail;refine Go.Proofs.K.wp_region_calm ?calm7a ?calm7b ?_
    case calm7a=>kernel_rfl
    case calm7b=>kernel_rfl
    repeat ((with_reducible refine wpQuiet_step ?_);intro Kq hKq;go_simp;first | ((with_reducible refine hKq _ ?_);clear hKq Kq) | (refine hKq _ ?_;clear hKq Kq) | (apply Exists.intro;refine ⟨fun _=>?_,hKq _ ?_⟩;(first | exact Go.Proofs.K.calm_of (HC.out _));clear hKq Kq))
    with_reducible refine wpQuiet_nil ?_
    intro w1 hw';obtain ⟨⟨wq,kq⟩,hw''⟩:=hw';subst hw'';have R1:=h_ (R0.out.keeps0 kq);have K1:=h_ (foot0 K kq);have q1:=kq.cell q0 id;clear y0 y7 ys yq kq HC q0;have c0:=R1.out.m0;have c3:=R1.out.m3;have cs:=R1.out.ms;go_wp2_with fail
    go_region_held3 (fun w'=>w'.cell? ⟨K.mb,0,none⟩=some (.pointer (some ⟨K.s,0,none⟩))∧w'.cell? ⟨K.mb,3,none⟩=some (.pointer (some ⟨K.hb,0,none⟩))∧w'.cell? ⟨K.s,0,none⟩=some (.pointer (some ⟨K.b,0,none⟩))∧w'.cell? ⟨la,0,none⟩=some (.int .i64 x))
     (first | go_keep | exact ⟨t0,t3,ts,tq⟩)
     (first | (go_at_call 357;refine (HO.out w1.drew (R1.out.keeps0 (Keeps.drew _ _))).mono ?_;rintro e w2 ⟨rfl,r2,k2⟩;dsimp only;have t0:=k2.cell c0 HN.out.1;have t3:=k2.cell c3 HN.out.1;have ts:=k2.cell cs HN.out.2.1;have tq:=k2.cell q1 HQ.out))
    have R2:=h_ r2;have K2:=h_ ((K1.out.trans (Keeps.drew K.foot w1)).trans (foot_bb K k2));clear t0 t3 ts tq r2 k2
    try clear c0;try clear c1;try clear c3;try clear cs
    go_wp2_with fail;go_ret
    exact ⟨rfl,R2.out,K2.out⟩
theorem do_throw (D:Int):DoOk D 1 353 (VM.one1 fun v n=>(v,n)):=by
 refine ⟨fun args w=>Tryz.call353 args w,?_⟩
 intro K w v la c L h hd hN hl hb;obtain ⟨x,rfl⟩:∃ x,L=[x]:=List.length_eq_one_iff.1 hl;have q0:w.cell? ⟨la,0,none⟩=some (.int .i64 x):=hN.cell (i:=0) (by simp)
 have hx:Sixty x:=hb x (by simp)
 have HNF:=h_ (hN.nf h);have HNN:=h_ hN;clear hN hl hb;have R0:=h_ h;have K0:=h_ (Keeps.refl K.foot w);clear h hd;unfold VM.one1;simp only [List.getD_cons_zero]
 go_enter Tryz.func353,Tryz.ntmps353
 go_wp2_with fail;go_ret
 exact ⟨rfl,R0.out,K0.out⟩
theorem plain_abort:PlainOk 354 (fun v=>(v,-1)):=by
 refine ⟨fun args w=>Tryz.call354 args w,?_⟩
 intro K w v h;have R0:=h_ h;have K0:=h_ (Keeps.refl K.foot w);clear h
 go_enter Tryz.func354,Tryz.ntmps354
 go_wp2_with fail;go_ret
 exact ⟨rfl,R0.out,K0.out⟩
theorem handler_of (w:World) (n:Int):Calls Tryz.prog 352 #[.int .i64 n] w fun e w'=>e=.returned (.int .i64 (VM.handlerOf n))∧w=w':=by
 unfold VM.handlerOf;by_cases h1:n<0
 · rw [if_pos (.inl h1)]
   have d1:decide (n<0)=true:=decide_eq_true h1
   go_enter Tryz.func352,Tryz.ntmps352
   go_wp2_with fail;go_ret
   exact ⟨rfl,rfl⟩
 · have d1:decide (n<0)=false:=decide_eq_false h1
   by_cases h2:1048576<n
   · rw [if_pos (.inr h2)]
     have d2:decide (1048576<n)=true:=decide_eq_true h2
     go_enter Tryz.func352,Tryz.ntmps352
     go_wp2_with fail;go_ret
     exact ⟨rfl,rfl⟩
   · rw [if_neg (fun e=>e.elim h1 h2)]
     have d2:decide (1048576<n)=false:=decide_eq_false h2
     go_enter Tryz.func352,Tryz.ntmps352
     go_wp2_with fail;go_ret
     exact ⟨rfl,rfl⟩
theorem handlerOf_bd (n:Int):0≤VM.handlerOf n∧VM.handlerOf n≤1048576:=by unfold VM.handlerOf;split <;> omega
section
variable (K:Bk) (w:World) (v:VM)
theorem fv_rall (k:Nat) (h:RFv w K v) (hd:v.r.depth=k+4):Calls Tryz.prog 20 #[.pointer (some ⟨K.rb,0,none⟩)] w fun e w'=>∃ g c,e=.returned (.slice (some ⟨g,0,none⟩) (k+4) c)∧k+4≤c∧w.heap.size≤g ∧
 (w'.cell? ⟨g,k,none⟩=some (.int .i64 ((VM.tops v.x.mem v.r 4).getD 0 0))∧w'.cell? ⟨g,k+1,none⟩=some (.int .i64 ((VM.tops v.x.mem v.r 4).getD 1 0))∧w'.cell? ⟨g,k+2,none⟩=some (.int .i64 ((VM.tops v.x.mem v.r 4).getD 2 0))∧w'.cell? ⟨g,k+3,none⟩=some (.int .i64 ((VM.tops v.x.mem v.r 4).getD 3 0)))∧Keeps (fun _=>False) w w':=by
 refine (stk_all w K.rb K.b K.bb v.r v.x.mem h.vm.rk h.vm.sp.mem).mono ?_;rintro e w' ⟨a,c,rfl,o,k1⟩;have hlen:(Stk.all v.x.mem v.r).length=k+4:=by unfold Stk.all;simp;omega
 have hall:∀ i,i<4→(Stk.all v.x.mem v.r)[k+i]?=some ((VM.tops v.x.mem v.r 4).getD i 0):=by
  intro i hi;unfold Stk.all VM.tops;have e1:(List.range v.r.depth.toNat)[k+i]?=some (k+i):=List.getElem?_range (by omega)
  have e2:(List.range 4)[i]?=some i:=List.getElem?_range hi;rw [List.getElem?_map,e1,List.getD_eq_getElem?_getD,List.getElem?_map,e2];simp only [Option.map_some,Option.getD_some]
  congr 3
  omega
 rw [hlen]
 rcases o.1.form with ⟨_,hn,_⟩ | ⟨g,cur,rfl,hh,hnc,_⟩
 · omega
 · have cc:∀ i,i<4→w'.cell? ⟨g,k+i,none⟩=some (.int .i64 ((VM.tops v.x.mem v.r 4).getD i 0)):=fun i hi=>o.1.cell (by
    unfold intV;rw [List.getElem?_map,hall i hi]
    rfl)
   exact ⟨g,c,rfl,by omega,o.2 g rfl,⟨cc 0 (by omega),cc 1 (by omega),cc 2 (by omega),cc 3 (by omega)⟩,k1⟩
end
theorem keeps_set1 (V:World) (q i:Nat) (v:Value):Keeps (fun k=>k=q) V (V.setCell ⟨q,i,none⟩ v):=Keeps.setCell V ⟨q,i,none⟩ v (fun _=>rfl)
theorem keeps_set3 (w:World) (q:Nat) (a b c:Value):Keeps (fun k=>k=q) w (((w.setCell ⟨q,5,none⟩ a).setCell ⟨q,6,none⟩ b).setCell ⟨q,16,none⟩ c):=by
 have kk:∀ (V:World) (i:Nat) (v:Value),Keeps (fun k=>k=q) V (V.setCell ⟨q,i,none⟩ v):=fun V i v=>Keeps.setCell V ⟨q,i,none⟩ v (fun _=>rfl)
 exact ((kk _ 5 a).trans (kk _ 6 b)).trans (kk _ 16 c)
theorem RFv.set3 {w:World} {K:Bk} {v:VM} (h:RFv w K v) (a b c:Int) (h0:0≤c) (h1:c≤1048576):RFv (((w.setCell ⟨K.mb,5,none⟩ (.int .i64 a)).setCell ⟨K.mb,6,none⟩ (.int .i64 b)).setCell ⟨K.mb,16,none⟩ (.int .i64 c)) K { v with ip:=a,self:=b,handler:=c } :=
 ((h.setIp a).setSelf b).setHandler c h0 h1
theorem VM.caught_eq (v:VM):v.caughtF=if v.r.depth<4 then (v,-6) else
 VM.push { (v.rdrop (v.r.depth-4)).1 with ip:=(VM.tops v.x.mem v.r 4).getD 0 0,self:=(VM.tops v.x.mem v.r 4).getD 1 0,handler:=VM.handlerOf ((VM.tops v.x.mem v.r 4).getD 3 0) } [0]:=rfl
theorem plain_caught:PlainOk 351 VM.caughtF:=by
 refine ⟨fun args w=>Tryz.call351 args w,?_⟩
 intro K w v h;have HD:=h_ (fv_rdepth K w v h);have hs:=VM.caught_eq v;generalize v.caughtF=Q at hs ⊢;by_cases hc:v.r.depth<4
 · rw [if_pos hc] at hs
   subst hs;have d1:decide (v.r.depth<4)=true:=decide_eq_true hc;have R0:=h_ h;have K0:=h_ (Keeps.refl K.foot w);have c2:=R0.out.m2;clear h hc
   go_enter Tryz.func351,Tryz.ntmps351
   go_wp2_with fail;refine (HD.out).mono ?_;rintro e w' ⟨rfl,rfl⟩;go_wp2_with fail;go_ret
   exact ⟨rfl,R0.out,K0.out⟩
 · rw [if_neg hc] at hs
   have d1:decide (v.r.depth<4)=false:=decide_eq_false hc;obtain ⟨o1,o2,o3,o4,o5,o6,o7⟩:=h.vm.rk.ok;obtain ⟨k,hk⟩:∃ k:Nat,v.r.depth=(k:Int)+4:=⟨(v.r.depth-4).toNat,by omega⟩
   have HA:=h_ (fv_rall K w v k h hk);have HDD:=h_ (fun V (hV:RFv V K v)=>fv_rdepth K V v hV)
   have HDR:=h_ (fun V (hV:RFv V K v)=>(stk_drop V K.rb K.b v.r (v.r.depth-4) hV.vm.rk).mono fun e w' (⟨he,hd,k⟩:e=_∧RStk w' K.rb K.b _∧Keeps (fun k=>k=K.rb) V w')=>(show PVr K V (v.rdrop (v.r.depth-4)) e w' from ⟨he,hV.withR k hd (stk_drop_same _ _),k.mono (fun _ _ e=>.inl e)⟩))
   generalize v.rdrop (v.r.depth-4)=q at HDR hs;rw [hk] at HD HDD HDR d1;have hkd:(k:Int)+4-4=k:=by omega
   rw [hkd] at HDR;generalize (VM.tops v.x.mem v.r 4).getD 0 0=l0 at HA hs;generalize (VM.tops v.x.mem v.r 4).getD 1 0=l1 at HA hs;generalize (VM.tops v.x.mem v.r 4).getD 2 0=l2 at HA;generalize (VM.tops v.x.mem v.r 4).getD 3 0=l3 at HA hs;obtain ⟨v1,e1⟩:=q;simp only at hs
   have HH:=h_ fun V=>handler_of V l3
   have hb:=handlerOf_bd l3;generalize VM.handlerOf l3=l at HH hs hb;have hk6:k≤1048576:=by omega
   have HN:=h_ (mb_nr K w v h);have HNM:=h_ h.lts.1;have HLS:=h_ h.lts;have R0:=h_ h;have K0:=h_ (Keeps.refl K.foot w);have c2:=R0.out.m2;clear h hc hk o1 o2 o3 o4 o5 o6 o7;have HS:=h_ hs;clear hs;have hw1:IntKind.i64.wrap ((k:Int)+4-4)=k:=by rw [hkd];exact IntWalk.i64_in _ (by omega)
   have hw2:IntKind.i64.wrap (k:Int)=k:=IntWalk.i64_in _ (by omega)
   go_enter Tryz.func351,Tryz.ntmps351
   go_wp2_with fail;refine (HD.out).mono ?_;rintro e w' ⟨rfl,rfl⟩;go_wp2_with fail;refine HA.out.mono ?_;rintro e w1 ⟨g,c,rfl,hc,hg,⟨z0,z1,z2,z3⟩,k1⟩;have R1:=h_ (R0.out.keeps0 k1);have K1:=h_ (foot0 K k1)
   have ng:¬ K.foot g:=fun e=>by
    have:=HLS.out;unfold Bk.foot at e;omega
   have NG:=h_ ng;clear k1 ng c2;have HC:=h_ hc;have HG:=h_ hg;clear hg;have c2:=R1.out.m2;go_wp2_with fail
   go_region_held3 (fun w'=>w'.cell? ⟨K.mb,2,none⟩=some (.pointer (some ⟨K.rb,0,none⟩)))
    (first | go_keep | exact t2)
    (first
      | (go_at_call 18;refine (HDD.out w1.drew (R1.out.keeps0 (Keeps.drew _ _))).mono ?_;rintro e w2 ⟨rfl,rfl⟩;dsimp only)
      | (go_at_call 53;refine (HDR.out w1.drew (R1.out.keeps0 (Keeps.drew _ _))).mono ?_;rintro e w2 ⟨rfl,r2,k2⟩;dsimp only;have t2:=k2.cell c2 HN.out))
   have R2:=h_ r2;have KG:=h_ ((Keeps.drew K.foot w1).trans (foot_rbb K k2));have K2:=h_ ((K1.out.trans (Keeps.drew K.foot w1)).trans (foot_rbb K k2));clear t2 r2 k2 c2;have b0:=R2.out.lts.1;have x0:=K2.out;have z0':w2.cell? ⟨g,k,none⟩=some (.int .i64 l0):=(KG.out).cell z0 NG.out;have z1':w2.cell? ⟨g,k+1,none⟩=some (.int .i64 l1):=(KG.out).cell z1 NG.out;have z3':w2.cell? ⟨g,k+3,none⟩=some (.int .i64 l3):=(KG.out).cell z3 NG.out;clear z0 z1 z2 z3 b0 x0 KG;have HT:=h_ (R2.out.set3 l0 l1 l hb.1 hb.2);have J1:=h_ ((keeps_set1 w2 K.mb 5 (.int .i64 l0)).trans (Keeps.drew _ _));have J2:=h_ (((keeps_set1 w2 K.mb 5 (.int .i64 l0)).trans (keeps_set1 _ K.mb 6 (.int .i64 l1))).trans (Keeps.drew _ _));have J3:=h_ ((keeps_set3 w2 K.mb (.int .i64 l0) (.int .i64 l1) (.int .i64 l)).trans (Keeps.drew _ _));have c5:=R2.out.m5;have c6:=R2.out.m6;have c16:=R2.out.m16;have f5:=R2.out.free 5;have f6:=R2.out.free 6;have f16:=R2.out.free 16;have NGM:=h_ (show g≠K.mb from fun e=>NG.out (.inl e))
   have q10:(w2.setCell ⟨K.mb,5,none⟩ (.int .i64 l0)).drew.cell? ⟨g,k,none⟩=some (.int .i64 l0):=J1.out.cell z0' NGM.out;have q11:(w2.setCell ⟨K.mb,5,none⟩ (.int .i64 l0)).drew.cell? ⟨g,k+1,none⟩=some (.int .i64 l1):=J1.out.cell z1' NGM.out;have q13:(w2.setCell ⟨K.mb,5,none⟩ (.int .i64 l0)).drew.cell? ⟨g,k+3,none⟩=some (.int .i64 l3):=J1.out.cell z3' NGM.out;have q20:((w2.setCell ⟨K.mb,5,none⟩ (.int .i64 l0)).setCell ⟨K.mb,6,none⟩ (.int .i64 l1)).drew.cell? ⟨g,k,none⟩=some (.int .i64 l0):=J2.out.cell z0' NGM.out;have q21:((w2.setCell ⟨K.mb,5,none⟩ (.int .i64 l0)).setCell ⟨K.mb,6,none⟩ (.int .i64 l1)).drew.cell? ⟨g,k+1,none⟩=some (.int .i64 l1):=J2.out.cell z1' NGM.out;have q23:((w2.setCell ⟨K.mb,5,none⟩ (.int .i64 l0)).setCell ⟨K.mb,6,none⟩ (.int .i64 l1)).drew.cell? ⟨g,k+3,none⟩=some (.int .i64 l3):=J2.out.cell z3' NGM.out;have q30:(((w2.setCell ⟨K.mb,5,none⟩ (.int .i64 l0)).setCell ⟨K.mb,6,none⟩ (.int .i64 l1)).setCell ⟨K.mb,16,none⟩ (.int .i64 l)).drew.cell? ⟨g,k,none⟩=some (.int .i64 l0):=J3.out.cell z0' NGM.out;have q31:(((w2.setCell ⟨K.mb,5,none⟩ (.int .i64 l0)).setCell ⟨K.mb,6,none⟩ (.int .i64 l1)).setCell ⟨K.mb,16,none⟩ (.int .i64 l)).drew.cell? ⟨g,k+1,none⟩=some (.int .i64 l1):=J3.out.cell z1' NGM.out;have q33:(((w2.setCell ⟨K.mb,5,none⟩ (.int .i64 l0)).setCell ⟨K.mb,6,none⟩ (.int .i64 l1)).setCell ⟨K.mb,16,none⟩ (.int .i64 l)).drew.cell? ⟨g,k+3,none⟩=some (.int .i64 l3):=J3.out.cell z3' NGM.out;go_wp2_with fail
   go_region_held3 (fun w'=>w'.cell? ⟨g,k,none⟩=some (.int .i64 l0)∧w'.cell? ⟨g,k+1,none⟩=some (.int .i64 l1)∧w'.cell? ⟨g,k+3,none⟩=some (.int .i64 l3))
    (first | go_keep)
    (first | (go_at_call 352;refine (HH.out _).mono ?_;rintro e w4 ⟨rfl,rfl⟩;dsimp only))
   clear q10 q11 q13 q20 q21 q23 q30 q31 q33 z0' z1' z3' c5 c6 c16 f5 f6 f16;have R3:=h_ (HT.out.keeps0 (Keeps.drew _ _));have K3:=h_ (K2.out.trans (foot_mb K J3.out));generalize (((w2.setCell ⟨K.mb,5,none⟩ (.int .i64 l0)).setCell ⟨K.mb,6,none⟩ (.int .i64 l1)).setCell ⟨K.mb,16,none⟩ (.int .i64 l)).drew=w3 at R3 K3 ⊢;have c1:=R3.out.m1;have hs:=HS.out;subst hs;clear HS;go_wp2_with fail;refine (fv_push1p K w3 _ 0 2 R3.out).mono ?_;rintro e w4 ⟨rfl,r4,k4⟩;have R4:=h_ r4;have K4:=h_ (K3.out.trans k4);clear r4 k4
   try clear c1;try clear c2;try clear c5;try clear c6;try clear c16
   go_wp2_with fail;go_ret
   exact ⟨rfl,R4.out,K4.out⟩
def EnterOk (D:Int) (en:VM→Int→VM × Int):Prop:=∀ (K:Bk) (w:World) (v:VM) (xt:Int),RFv w K v→v.d.depth<D→Sixty xt→Calls Tryz.prog 310 #[.pointer (some ⟨K.mb,0,none⟩),.int .i64 xt] w (PV K w (en v xt))
theorem do_execute (D:Int) (en:VM→Int→VM × Int) (HE:EnterOk D en):DoOk D 1 309 (VM.one1 en):=by
 refine ⟨fun args w=>Tryz.call309 args w,?_⟩
 intro K w v la c L h hd hN hl hb;obtain ⟨x,rfl⟩:∃ x,L=[x]:=List.length_eq_one_iff.1 hl;have q0:w.cell? ⟨la,0,none⟩=some (.int .i64 x):=hN.cell (i:=0) (by simp)
 have hx:Sixty x:=hb x (by simp)
 have HNF:=h_ (hN.nf h);have HNN:=h_ hN;clear hN hl hb;have R0:=h_ h;have K0:=h_ (Keeps.refl K.foot w);have HP:=h_ (HE K w v x h hd hx);clear h hd HE;unfold VM.one1;simp only [List.getD_cons_zero]
 generalize en v x=q at HP ⊢
 go_enter Tryz.func309,Tryz.ntmps309
 go_wp2_with fail;refine (HP.out).mono ?_;rintro e w1 ⟨rfl,r1,k1⟩;have R1:=h_ r1;have K1:=h_ (K0.out.trans k1);clear r1 k1
 skip
 go_wp2_with fail;go_ret
 exact ⟨rfl,R1.out,K1.out⟩
theorem do_catch (D:Int) (en:VM→Int→VM × Int) (HE:EnterOk D en):DoOk D 1 350 (VM.one1 fun v n =>
 if (v.rpush [v.ip,v.self,v.d.depth,v.handler]).2≠0 then v.rpush [v.ip,v.self,v.d.depth,v.handler]
 else let u:=(v.rpush [v.ip,v.self,v.d.depth,v.handler]).1;en { u with handler:=u.r.depth,ip:=u.caught } n):=by
 refine ⟨fun args w=>Tryz.call350 args w,?_⟩
 intro K w v la c L h hd hN hl hb;obtain ⟨x,rfl⟩:∃ x,L=[x]:=List.length_eq_one_iff.1 hl;have q0:w.cell? ⟨la,0,none⟩=some (.int .i64 x):=hN.cell (i:=0) (by simp)
 have hx:Sixty x:=hb x (by simp)
 have HNF:=h_ (hN.nf h);have HNN:=h_ hN;clear hN hl hb;have R0:=h_ h;have K0:=h_ (Keeps.refl K.foot w)
 have hs:(VM.one1 (fun v n =>
  if (v.rpush [v.ip,v.self,v.d.depth,v.handler]).2≠0 then v.rpush [v.ip,v.self,v.d.depth,v.handler]
  else let u:=(v.rpush [v.ip,v.self,v.d.depth,v.handler]).1;en { u with handler:=u.r.depth,ip:=u.caught } n) v [x])=if (v.rpush [v.ip,v.self,v.d.depth,v.handler]).2≠0 then v.rpush [v.ip,v.self,v.d.depth,v.handler]
  else en { (v.rpush [v.ip,v.self,v.d.depth,v.handler]).1 with handler:=(v.rpush [v.ip,v.self,v.d.depth,v.handler]).1.r.depth,ip:=(v.rpush [v.ip,v.self,v.d.depth,v.handler]).1.caught } x:=rfl
 generalize VM.one1 _ v [x]=Q at hs ⊢;have HP:=h_ fun V (hV:RFv V K v)=>fv_rpush4 K V v v.ip v.self v.d.depth v.handler 2 hV
 have HD:=h_ fun V (hV:RFv V K v)=>fv_depth K V v hV
 have hdd:(v.rpush [v.ip,v.self,v.d.depth,v.handler]).1.d.depth=v.d.depth:=rfl;generalize v.rpush [v.ip,v.self,v.d.depth,v.handler]=q at hs HP hdd;obtain ⟨v1,e⟩:=q;simp only at hs HP hdd
 have hd1:v1.d.depth<D:=by omega
 have HS:=h_ hs;have HN:=h_ (mb_nr K w v h);have HX:=h_ hx;have c1:=R0.out.m1;have c2:=R0.out.m2;have c5:=R0.out.m5;have c6:=R0.out.m6;have c16:=R0.out.m16;have HHE:=h_ HE;have HD1:=h_ hd1;clear h hd hs hdd hd1 hx HE;by_cases h1:e=0
 · subst h1
   go_enter Tryz.func350,Tryz.ntmps350
   go_wp2_with fail
   go_region_held3 (fun w'=>w'.cell? ⟨K.mb,1,none⟩=some (.pointer (some ⟨K.db,0,none⟩))∧w'.cell? ⟨K.mb,2,none⟩=some (.pointer (some ⟨K.rb,0,none⟩))∧w'.cell? ⟨K.mb,5,none⟩=some (.int .i64 v.ip)∧w'.cell? ⟨K.mb,6,none⟩=some (.int .i64 v.self)∧w'.cell? ⟨K.mb,16,none⟩=some (.int .i64 v.handler))
    (first | go_keep | exact ⟨t1,t2,t5,t6,t16⟩)
    (first
      | (go_at_call 18;refine (HD.out w.drew (R0.out.keeps0 (Keeps.drew _ _))).mono ?_;rintro e w2 ⟨rfl,rfl⟩;dsimp only)
      | (go_at_call 80;refine (HP.out w.drew (R0.out.keeps0 (Keeps.drew _ _))).mono ?_;rintro e w1 ⟨rfl,r1,k1⟩;dsimp only;have t1:=k1.cell c1 HN.out;have t2:=k1.cell c2 HN.out;have t5:=k1.cell c5 HN.out;have t6:=k1.cell c6 HN.out;have t16:=k1.cell c16 HN.out))
   have R1:=h_ r1;have K1:=h_ (((Keeps.drew K.foot w)).trans (foot_rbb K k1));clear t1 t2 t5 t6 t16 r1 k1
   try clear c1;try clear c2;try clear c5;try clear c6;try clear c16
   have hs:=HS.out;rw [if_neg (by simp)] at hs
   subst hs;clear HS;have R1:Hid (RFv w1 K v1):=R1;have hok:v1.r.Ok:=R1.out.vm.rk.ok;obtain ⟨o1,o2,o3,o4,o5,o6,o7⟩:=hok;have HDD:=h_ (fv_rdepth K w1 v1 R1.out);have R2:=h_ (R1.out.setHandler v1.r.depth o3 (by omega))
   have K2:=h_ (K1.out.trans (foot_mb K (keeps_set1 w1 K.mb 16 (.int .i64 v1.r.depth))));have R3:=h_ (R2.out.setIp v1.caught);have K3:=h_ (K2.out.trans (foot_mb K (keeps_set1 _ K.mb 5 (.int .i64 v1.caught))));have c15:=R2.out.m15;have f16:=R1.out.free 16;have f5:=R2.out.free 5;have q3:=K3.out.cell q0 HNF.out;have HC:=h_ (HHE.out K _ _ x R3.out HD1.out HX.out);have c2:=R1.out.m2;have c5:=R1.out.m5;have c16:=R1.out.m16;clear o1 o2 o3 o4 o5 o6 o7;go_wp2_with fail;refine (HDD.out).mono ?_;rintro e w' ⟨rfl,rfl⟩;go_wp2_with fail;refine (HC.out).mono ?_;rintro e w4 ⟨rfl,r4,k4⟩;have R4:=h_ r4;have K4:=h_ (K3.out.trans k4);clear r4 k4
   try clear c1;try clear c2;try clear c5;try clear c6;try clear c15;try clear c16
   go_wp2_with fail;go_ret
   exact ⟨rfl,R4.out,K4.out⟩
 · have d1:(e != 0)=true:=by simp [h1]
   have hs:=HS.out;rw [if_pos h1] at hs;subst hs;clear HS h1
   go_enter Tryz.func350,Tryz.ntmps350
   go_wp2_with fail
   go_region_held3 (fun w'=>w'.cell? ⟨K.mb,1,none⟩=some (.pointer (some ⟨K.db,0,none⟩))∧w'.cell? ⟨K.mb,2,none⟩=some (.pointer (some ⟨K.rb,0,none⟩))∧w'.cell? ⟨K.mb,5,none⟩=some (.int .i64 v.ip)∧w'.cell? ⟨K.mb,6,none⟩=some (.int .i64 v.self)∧w'.cell? ⟨K.mb,16,none⟩=some (.int .i64 v.handler))
    (first | go_keep | exact ⟨t1,t2,t5,t6,t16⟩)
    (first
      | (go_at_call 18;refine (HD.out w.drew (R0.out.keeps0 (Keeps.drew _ _))).mono ?_;rintro e w2 ⟨rfl,rfl⟩;dsimp only)
      | (go_at_call 80;refine (HP.out w.drew (R0.out.keeps0 (Keeps.drew _ _))).mono ?_;rintro e w1 ⟨rfl,r1,k1⟩;dsimp only;have t1:=k1.cell c1 HN.out;have t2:=k1.cell c2 HN.out;have t5:=k1.cell c5 HN.out;have t6:=k1.cell c6 HN.out;have t16:=k1.cell c16 HN.out))
   have R1:=h_ r1;have K1:=h_ (((Keeps.drew K.foot w)).trans (foot_rbb K k1));clear t1 t2 t5 t6 t16 r1 k1
   try clear c1;try clear c2;try clear c5;try clear c6;try clear c15;try clear c16
   go_wp2_with fail;go_ret
   exact ⟨rfl,R1.out,K1.out⟩
theorem VM.inline_bd (v:VM):Sixty v.inline.2.1:=Mem.cell_bd _ _
def VM.earlyF (v:VM):VM × Int :=
 let q:=v.inline
 if q.2.2≠0 then (q.1,q.2.2) else
 let p:=q.1.inline
 if p.2.2≠0 then (p.1,p.2.2) else
 let y:=Class.lookup p.1.x.mem q.2.1 p.2.1
 if y.2.2=false then (p.1,-2049) else p.1.method y.1.xt p.1.self
theorem VM.early_eq (v:VM):v.earlyF=if v.inline.2.2≠0 then (v.inline.1,v.inline.2.2) else
 if v.inline.1.inline.2.2≠0 then (v.inline.1.inline.1,v.inline.1.inline.2.2) else
 if (Class.lookup v.inline.1.inline.1.x.mem v.inline.2.1 v.inline.1.inline.2.1).2.2=false then (v.inline.1.inline.1,-2049) else
 v.inline.1.inline.1.method (Class.lookup v.inline.1.inline.1.x.mem v.inline.2.1 v.inline.1.inline.2.1).1.xt v.inline.1.inline.1.self:=rfl
theorem plain_early:PlainOk 364 VM.earlyF:=by
 refine ⟨fun args w=>Tryz.call364 args w,?_⟩
 intro K w v h;have HP:=h_ (fv_inline K w v h);have hs:=VM.early_eq v;generalize v.earlyF=Q at hs ⊢;have hb:=v.inline_bd;generalize v.inline=q at hs HP hb;obtain ⟨v1,c,e⟩:=q;simp only at hs hb
 have HP2:=h_ fun V (hV:RFv V K v1)=>fv_inline K V v1 hV
 generalize v1.inline=q at hs HP2;obtain ⟨v2,sel,e2⟩:=q;simp only at hs
 have HL:=h_ fun V (hV:RFv V K v2)=>class_lookup V K.b K.bb v2.x.mem c sel hV.vm.sp.mem hb.1 hb.2
 generalize Class.lookup v2.x.mem c sel=y at hs HL;obtain ⟨⟨es,ex,ec⟩,n,ok⟩:=y;unfold getV Ent.val at HL;simp only at hs HL
 have HS:=h_ hs;have R0:=h_ h;have K0:=h_ (Keeps.refl K.foot w);clear h hs hb;by_cases h1:e=0
 · subst h1
   by_cases h2:e2=0
   · subst h2
     cases ok with
     | false =>
      have hs:=HS.out;rw [if_neg (by simp),if_neg (by simp),if_pos rfl] at hs
      subst hs;clear HS
      go_enter Tryz.func364,Tryz.ntmps364
      go_wp2_with fail;refine (HP.out).mono ?_;rintro e w1 ⟨rfl,r1,k1⟩;have R1:=h_ r1;have K1:=h_ (K0.out.trans k1);clear r1 k1
      skip
      go_wp2_with fail;refine (HP2.out w1 R1.out).mono ?_;rintro e w2 ⟨rfl,r2,k2⟩;have R2:=h_ r2;have K2:=h_ (K1.out.trans k2);clear r2 k2
      skip
      have c0:=R2.out.m0;have cs:=R2.out.ms;go_wp2_with fail;refine (HL.out w2 R2.out).mono ?_;rintro e w3 ⟨rfl,k3⟩;have R3:=h_ (R2.out.keeps0 (k3.trans (ka_ w3 (.cells #[.int .i64 es,.int .i64 ex,.int .i64 ec] 279))));have K3:=h_ ((K2.out.trans (foot0 K k3)).trans (Keeps.alloc K.foot w3 (.cells #[.int .i64 es,.int .i64 ex,.int .i64 ec] 279)));clear k3
      try clear c0;try clear cs
      go_wp2_with fail;go_ret
      exact ⟨rfl,R3.out,K3.out⟩
     | true =>
      have hs:=HS.out;rw [if_neg (by simp),if_neg (by simp),if_neg (by simp)] at hs
      subst hs;clear HS;have HM:=h_ fun V (hV:RFv V K v2)=>fv_method K V v2 ex v2.self hV
      go_enter Tryz.func364,Tryz.ntmps364
      go_wp2_with fail;refine (HP.out).mono ?_;rintro e w1 ⟨rfl,r1,k1⟩;have R1:=h_ r1;have K1:=h_ (K0.out.trans k1);clear r1 k1
      try clear c0;try clear cs
      go_wp2_with fail;refine (HP2.out w1 R1.out).mono ?_;rintro e w2 ⟨rfl,r2,k2⟩;have R2:=h_ r2;have K2:=h_ (K1.out.trans k2);clear r2 k2
      try clear c0;try clear cs
      have c0:=R2.out.m0;have cs:=R2.out.ms;go_wp2_with fail;refine (HL.out w2 R2.out).mono ?_;rintro e w3 ⟨rfl,k3⟩;have R3:=h_ (R2.out.keeps0 (k3.trans (ka_ w3 (.cells #[.int .i64 es,.int .i64 ex,.int .i64 ec] 279))));have K3:=h_ ((K2.out.trans (foot0 K k3)).trans (Keeps.alloc K.foot w3 (.cells #[.int .i64 es,.int .i64 ex,.int .i64 ec] 279)));clear k3
      try clear c0;try clear cs
      have t1:(w3.alloc (.cells #[.int .i64 es,.int .i64 ex,.int .i64 ec] 279)).cell? ⟨w3.heap.size,1,none⟩=some (.int .i64 ex):=cell_of (halloc_at w3 _) rfl;have c6:=R3.out.m6;go_wp2_with fail;generalize w3.alloc (.cells #[.int .i64 es,.int .i64 ex,.int .i64 ec] 279)=w4 at R3 K3 t1 c6 ⊢
      go_still_tail 7,(by kernel_rfl)
      change wpList _ _ _ _ _ w4.drew
      have R4:=h_ (R3.out.keeps0 (Keeps.drew _ _));have K4:=h_ (K3.out.trans (Keeps.drew _ _));go_wp2_with fail;refine (HM.out _ R4.out).mono ?_;rintro e w5 ⟨rfl,r5,k5⟩;have R5:=h_ r5;have K5:=h_ (K4.out.trans k5);clear r5 k5
      try clear c0;try clear c6;try clear cs
      go_wp2_with fail;go_ret
      exact ⟨rfl,R5.out,K5.out⟩
   · have d2:(e2 != 0)=true:=by simp [h2]
     have hs:=HS.out;rw [if_neg (by simp),if_pos h2] at hs
     subst hs;clear HS h2 HL
     go_enter Tryz.func364,Tryz.ntmps364
     go_wp2_with fail;refine (HP.out).mono ?_;rintro e w1 ⟨rfl,r1,k1⟩;have R1:=h_ r1;have K1:=h_ (K0.out.trans k1);clear r1 k1
     try clear c0;try clear c6;try clear cs
     go_wp2_with fail;refine (HP2.out w1 R1.out).mono ?_;rintro e w2 ⟨rfl,r2,k2⟩;have R2:=h_ r2;have K2:=h_ (K1.out.trans k2);clear r2 k2
     try clear c0;try clear c6;try clear cs
     go_wp2_with fail;go_ret
     exact ⟨rfl,R2.out,K2.out⟩
 · have d1:(e != 0)=true:=by simp [h1]
   have hs:=HS.out;rw [if_pos h1] at hs;subst hs;clear HS h1 HL HP2
   go_enter Tryz.func364,Tryz.ntmps364
   go_wp2_with fail;refine (HP.out).mono ?_;rintro e w1 ⟨rfl,r1,k1⟩;have R1:=h_ r1;have K1:=h_ (K0.out.trans k1);clear r1 k1
   try clear c0;try clear c6;try clear cs
   go_wp2_with fail;go_ret
   exact ⟨rfl,R1.out,K1.out⟩
theorem do_two (D:Int) (op:List UInt8) (ho:Ari.isTwo op=true):DoOk1 D 2 320 (.string ⟨op.toArray⟩) (VM.arith Ari.two op):=by
 refine ⟨fun args w=>Tryz.call320 args w,?_⟩
 intro K w v la c g L h hd xg hg hN hl hb;obtain ⟨x,y,rfl⟩:∃ x y,L=[x,y]:=by match L,hl with | [x,y],_=>exact ⟨x,y,rfl⟩
 have q0:w.cell? ⟨la,0,none⟩=some (.int .i64 x):=hN.cell (i:=0) (by simp)
 have q1:w.cell? ⟨la,1,none⟩=some (.int .i64 y):=hN.cell (i:=1) (by simp)
 have hs:VM.arith Ari.two op v [x,y]=if (Ari.two op x y).2≠0 then (v,(Ari.two op x y).2) else v.push [(Ari.two op x y).1]:=rfl
 generalize VM.arith Ari.two op v [x,y]=Q at hs ⊢;have HC:=h_ fun (q:Stay w)=>Go.Proofs.Ari.two_any op x y q.1 (hb x (by simp)) (hb y (by simp)) ho
 unfold Go.Proofs.Ari.TwoPost at HC;generalize Ari.two op x y=r at hs HC;obtain ⟨n,e⟩:=r;simp only at hs HC
 have HS:=h_ hs;have yg:=fun (q:Stay w)=>q.2.cell hg id
 have yq:=fun (q:Stay w)=>q.2.cell q0 id
 have yr:=fun (q:Stay w)=>q.2.cell q1 id
 have R0:=h_ h;have K0:=h_ (Keeps.refl K.foot w);clear h hd hs hN hl hb ho;by_cases h1:e=0
 · subst h1
   have hs:=HS.out;rw [if_neg (by simp)] at hs
   subst hs;clear HS;have HP:=h_ fun V (hV:RFv V K v)=>fv_push1p K V v n 2 hV
   go_enter Tryz.func320,Tryz.ntmps320
   go_wp2_with fail;refine Go.Proofs.K.wp_region_calm ?calm1a ?calm1b ?_
   case calm1a=>kernel_rfl
   case calm1b=>kernel_rfl
   repeat ((with_reducible refine wpQuiet_step ?_);intro Kq hKq;go_simp;first | ((with_reducible refine hKq _ ?_);clear hKq Kq) | (refine hKq _ ?_;clear hKq Kq) | (apply Exists.intro;refine ⟨fun _=>?_,hKq _ ?_⟩;(first | exact Go.Proofs.K.calm_of (HC.out _));clear hKq Kq))
   with_reducible refine wpQuiet_nil ?_
   intro w1 hw';obtain ⟨⟨wq,kq⟩,hw''⟩:=hw';subst hw'';have R1:=h_ (R0.out.keeps0 kq);have K1:=h_ (foot0 K kq);clear yg yq yr kq HC;have c1:=R1.out.m1;go_wp2_with fail;refine (HP.out w1 R1.out).mono ?_;rintro e w2 ⟨rfl,r2,k2⟩;have R2:=h_ r2;have K2:=h_ (K1.out.trans k2);clear r2 k2
   try clear c1
   go_wp2_with fail;go_ret
   exact ⟨rfl,R2.out,K2.out⟩
 · have d1:(e != 0)=true:=by simp [h1]
   have hs:=HS.out;rw [if_pos h1] at hs;subst hs;clear HS h1
   go_enter Tryz.func320,Tryz.ntmps320
   go_wp2_with fail;refine Go.Proofs.K.wp_region_calm ?calm2a ?calm2b ?_
   case calm2a=>kernel_rfl
   case calm2b=>kernel_rfl
   repeat ((with_reducible refine wpQuiet_step ?_);intro Kq hKq;go_simp;first | ((with_reducible refine hKq _ ?_);clear hKq Kq) | (refine hKq _ ?_;clear hKq Kq) | (apply Exists.intro;refine ⟨fun _=>?_,hKq _ ?_⟩;(first | exact Go.Proofs.K.calm_of (HC.out _));clear hKq Kq))
   with_reducible refine wpQuiet_nil ?_
   intro w1 hw';obtain ⟨⟨wq,kq⟩,hw''⟩:=hw';subst hw'';have R1:=h_ (R0.out.keeps0 kq);have K1:=h_ (foot0 K kq);clear yg yq yr kq HC;go_wp2_with fail;go_ret
   exact ⟨rfl,R1.out,K1.out⟩
theorem do_one (D:Int) (op:List UInt8) (ho:Ari.isOne op=true):DoOk1 D 1 322 (.string ⟨op.toArray⟩) (VM.arith (fun op a _=>(Ari.oneOf op a,0)) op):=by
 refine ⟨fun args w=>Tryz.call322 args w,?_⟩
 intro K w v la c g L h hd xg hg hN hl hb;obtain ⟨x,rfl⟩:∃ x,L=[x]:=List.length_eq_one_iff.1 hl;have q0:w.cell? ⟨la,0,none⟩=some (.int .i64 x):=hN.cell (i:=0) (by simp)
 have hs:VM.arith (fun op a _=>(Ari.oneOf op a,0)) op v [x]=v.push [Ari.oneOf op x]:=rfl
 rw [hs];have HC:=h_ fun (q:Stay w)=>(Go.Proofs.Ari.one_any op x q.1 (hb x (by simp)) ho).mono (fun e w' (h:_∧_)=>(⟨h.1,h.2 ▸ Keeps.refl (fun _=>False) _⟩:_∧Keeps (fun _=>False) q.1 w'))
 generalize Ari.oneOf op x=n at HC ⊢;have yg:=fun (q:Stay w)=>q.2.cell hg id
 have yq:=fun (q:Stay w)=>q.2.cell q0 id
 have HP:=h_ fun V (hV:RFv V K v)=>fv_push1p K V v n 2 hV
 have R0:=h_ h;have K0:=h_ (Keeps.refl K.foot w);clear h hd hs hN hl hb ho
 go_enter Tryz.func322,Tryz.ntmps322
 go_wp2_with fail;refine Go.Proofs.K.wp_region_calm ?calm3a ?calm3b ?_
 case calm3a=>kernel_rfl
 case calm3b=>kernel_rfl
 repeat ((with_reducible refine wpQuiet_step ?_);intro Kq hKq;go_simp;first | ((with_reducible refine hKq _ ?_);clear hKq Kq) | (refine hKq _ ?_;clear hKq Kq) | (apply Exists.intro;refine ⟨fun _=>?_,hKq _ ?_⟩;(first | exact Go.Proofs.K.calm_of (HC.out _));clear hKq Kq))
 with_reducible refine wpQuiet_nil ?_
 intro w1 hw';obtain ⟨⟨wq,kq⟩,hw''⟩:=hw';subst hw'';have R1:=h_ (R0.out.keeps0 kq);have K1:=h_ (foot0 K kq);clear yg yq kq HC;have c1:=R1.out.m1;go_wp2_with fail;refine (HP.out w1 R1.out).mono ?_;rintro e w2 ⟨rfl,r2,k2⟩;have R2:=h_ r2;have K2:=h_ (K1.out.trans k2);clear r2 k2
 try clear c1
 go_wp2_with fail;go_ret
 exact ⟨rfl,R2.out,K2.out⟩
def PrimOk (D:Int) (en:VM→Int→VM × Int):Pk→Prop
 | .plain f=>PlainOk f (VM.plainF f)
 | .with_ n f=>1≤n∧n≤8∧DoOk D n.toNat f (VM.doF en f)
 | .push f=>GetOk f (VM.getF f)
 | .moves n l=>1≤n∧n≤8∧l.length≤8∧∀ p ∈ l,0≤p∧p<n
 | .look f=>ReadOk f (VM.readF f)
 | .two op=>Ari.isTwo op=true
 | .one op=>Ari.isOne op=true
def AllK (Q:Pk→Prop) (K:List UInt8→Option Pk):Prop:=∀ s kd,K s=some kd→Q kd
theorem AllK.none (Q:Pk→Prop):AllK Q (fun _=>none):=fun _ _ h=>by cases h
theorem AllK.put {Q:Pk→Prop} {K:List UInt8→Option Pk} (h:AllK Q K) (x:List UInt8) {kd:Pk} (hq:Q kd):AllK Q (kput K x kd):=by
 intro s k hs;unfold kput at hs;by_cases e:s=x
 · rw [if_pos e] at hs;cases hs;exact hq
 · rw [if_neg e] at hs;exact h s k hs
theorem AllK.over {Q:Pk→Prop} {K1 K2:List UInt8→Option Pk} (h2:AllK Q K2) (h1:AllK Q K1):AllK Q (kover K2 K1):=by
 intro s k hs;unfold kover at hs
 cases e:K2 s with
 | none=>rw [e] at hs;exact h1 s k hs
 | some j=>rw [e] at hs;cases hs;exact h2 s _ e
theorem AllK.fold (D:Int) (en:VM→Int→VM × Int) {K:List UInt8→Option Pk} (h:AllK (PrimOk D en) K) (l:List (List UInt8)):AllK (PrimOk D en) (l.foldl addK K):=by
 induction l generalizing K with
 | nil=>exact h
 | cons x l ih =>
  refine ih ?_;unfold addK;split
  · rename_i e;exact h.put x (show PrimOk D en (.two x) from e)
  · split
    · rename_i e;exact h.put x (show PrimOk D en (.one x) from e)
    · exact h
theorem prim_flows_0 (D:Int) (en:VM→Int→VM × Int) (HE:EnterOk D en):PrimOk D en (.plain 295):=plain_exit
theorem prim_flows_1 (D:Int) (en:VM→Int→VM × Int) (HE:EnterOk D en):PrimOk D en (.push 297):=get_inline
theorem prim_flows_2 (D:Int) (en:VM→Int→VM × Int) (HE:EnterOk D en):PrimOk D en (.plain 298):=plain_branch
theorem prim_flows_3 (D:Int) (en:VM→Int→VM × Int) (HE:EnterOk D en):PrimOk D en (.with_ 1 300):=⟨by decide,by decide,do_0branch D⟩
theorem prim_flows_4 (D:Int) (en:VM→Int→VM × Int) (HE:EnterOk D en):PrimOk D en (.with_ 2 301):=⟨by decide,by decide,do_do D⟩
theorem prim_flows_5 (D:Int) (en:VM→Int→VM × Int) (HE:EnterOk D en):PrimOk D en (.plain 302):=plain_loop
theorem prim_flows_6 (D:Int) (en:VM→Int→VM × Int) (HE:EnterOk D en):PrimOk D en (.with_ 1 304):=⟨by decide,by decide,do_ploop D⟩
theorem prim_flows_7 (D:Int) (en:VM→Int→VM × Int) (HE:EnterOk D en):PrimOk D en (.push 305):=get_i
theorem prim_flows_8 (D:Int) (en:VM→Int→VM × Int) (HE:EnterOk D en):PrimOk D en (.push 306):=get_j
theorem prim_flows_9 (D:Int) (en:VM→Int→VM × Int) (HE:EnterOk D en):PrimOk D en (.plain 307):=plain_unloop
theorem prim_flows_10 (D:Int) (en:VM→Int→VM × Int) (HE:EnterOk D en):PrimOk D en (.with_ 1 309):=⟨by decide,by decide,do_execute D en HE⟩
theorem prim_flows_11 (D:Int) (en:VM→Int→VM × Int) (HE:EnterOk D en):PrimOk D en (.plain 311):=plain_bye
theorem all_flows (D:Int) (en:VM→Int→VM × Int) (HE:EnterOk D en):AllK (PrimOk D en) K_flows:=by
 unfold K_flows;exact ((((((((((((AllK.none _).put _ (prim_flows_0 D en HE)).put _ (prim_flows_1 D en HE)).put _ (prim_flows_2 D en HE)).put _ (prim_flows_3 D en HE)).put _ (prim_flows_4 D en HE)).put _ (prim_flows_5 D en HE)).put _ (prim_flows_6 D en HE)).put _ (prim_flows_7 D en HE)).put _ (prim_flows_8 D en HE)).put _ (prim_flows_9 D en HE)).put _ (prim_flows_10 D en HE)).put _ (prim_flows_11 D en HE)
theorem prim_moving_0 (D:Int) (en:VM→Int→VM × Int) (HE:EnterOk D en):PrimOk D en (.moves 1 [0,0]):=⟨by decide,by decide,by decide,by decide⟩
theorem prim_moving_1 (D:Int) (en:VM→Int→VM × Int) (HE:EnterOk D en):PrimOk D en (.moves 1 []):=⟨by decide,by decide,by decide,by decide⟩
theorem prim_moving_2 (D:Int) (en:VM→Int→VM × Int) (HE:EnterOk D en):PrimOk D en (.moves 2 [1,0]):=⟨by decide,by decide,by decide,by decide⟩
theorem prim_moving_3 (D:Int) (en:VM→Int→VM × Int) (HE:EnterOk D en):PrimOk D en (.moves 2 [0,1,0]):=⟨by decide,by decide,by decide,by decide⟩
theorem prim_moving_4 (D:Int) (en:VM→Int→VM × Int) (HE:EnterOk D en):PrimOk D en (.moves 3 [1,2,0]):=⟨by decide,by decide,by decide,by decide⟩
theorem prim_moving_5 (D:Int) (en:VM→Int→VM × Int) (HE:EnterOk D en):PrimOk D en (.moves 2 [1]):=⟨by decide,by decide,by decide,by decide⟩
theorem prim_moving_6 (D:Int) (en:VM→Int→VM × Int) (HE:EnterOk D en):PrimOk D en (.moves 2 [1,0,1]):=⟨by decide,by decide,by decide,by decide⟩
theorem prim_moving_7 (D:Int) (en:VM→Int→VM × Int) (HE:EnterOk D en):PrimOk D en (.with_ 1 313):=⟨by decide,by decide,do_qdup D⟩
theorem prim_moving_8 (D:Int) (en:VM→Int→VM × Int) (HE:EnterOk D en):PrimOk D en (.with_ 1 314):=⟨by decide,by decide,do_pick D⟩
theorem prim_moving_9 (D:Int) (en:VM→Int→VM × Int) (HE:EnterOk D en):PrimOk D en (.push 315):=get_depth
theorem prim_moving_10 (D:Int) (en:VM→Int→VM × Int) (HE:EnterOk D en):PrimOk D en (.with_ 1 316):=⟨by decide,by decide,do_tor D⟩
theorem prim_moving_11 (D:Int) (en:VM→Int→VM × Int) (HE:EnterOk D en):PrimOk D en (.push 317):=get_rfrom
theorem prim_moving_12 (D:Int) (en:VM→Int→VM × Int) (HE:EnterOk D en):PrimOk D en (.push 318):=get_rat
theorem all_moving (D:Int) (en:VM→Int→VM × Int) (HE:EnterOk D en):AllK (PrimOk D en) K_moving:=by
 unfold K_moving;exact (((((((((((((AllK.none _).put _ (prim_moving_0 D en HE)).put _ (prim_moving_1 D en HE)).put _ (prim_moving_2 D en HE)).put _ (prim_moving_3 D en HE)).put _ (prim_moving_4 D en HE)).put _ (prim_moving_5 D en HE)).put _ (prim_moving_6 D en HE)).put _ (prim_moving_7 D en HE)).put _ (prim_moving_8 D en HE)).put _ (prim_moving_9 D en HE)).put _ (prim_moving_10 D en HE)).put _ (prim_moving_11 D en HE)).put _ (prim_moving_12 D en HE)
theorem prim_storing_0 (D:Int) (en:VM→Int→VM × Int) (HE:EnterOk D en):PrimOk D en (.look 324):=read_cell
theorem prim_storing_1 (D:Int) (en:VM→Int→VM × Int) (HE:EnterOk D en):PrimOk D en (.look 325):=read_byte
theorem prim_storing_2 (D:Int) (en:VM→Int→VM × Int) (HE:EnterOk D en):PrimOk D en (.with_ 2 327):=⟨by decide,by decide,do_store D⟩
theorem prim_storing_3 (D:Int) (en:VM→Int→VM × Int) (HE:EnterOk D en):PrimOk D en (.with_ 2 328):=⟨by decide,by decide,do_cstore D⟩
theorem prim_storing_4 (D:Int) (en:VM→Int→VM × Int) (HE:EnterOk D en):PrimOk D en (.with_ 2 330):=⟨by decide,by decide,do_addstore D⟩
theorem prim_storing_5 (D:Int) (en:VM→Int→VM × Int) (HE:EnterOk D en):PrimOk D en (.push 331):=get_here
theorem prim_storing_6 (D:Int) (en:VM→Int→VM × Int) (HE:EnterOk D en):PrimOk D en (.with_ 1 332):=⟨by decide,by decide,do_allot D⟩
theorem prim_storing_7 (D:Int) (en:VM→Int→VM × Int) (HE:EnterOk D en):PrimOk D en (.with_ 1 333):=⟨by decide,by decide,do_comma D⟩
theorem prim_storing_8 (D:Int) (en:VM→Int→VM × Int) (HE:EnterOk D en):PrimOk D en (.with_ 1 334):=⟨by decide,by decide,do_char D⟩
theorem prim_storing_9 (D:Int) (en:VM→Int→VM × Int) (HE:EnterOk D en):PrimOk D en (.plain 335):=plain_align
theorem prim_storing_10 (D:Int) (en:VM→Int→VM × Int) (HE:EnterOk D en):PrimOk D en (.with_ 1 336):=⟨by decide,by decide,do_allocate D⟩
theorem prim_storing_11 (D:Int) (en:VM→Int→VM × Int) (HE:EnterOk D en):PrimOk D en (.with_ 1 338):=⟨by decide,by decide,do_free D⟩
theorem prim_storing_12 (D:Int) (en:VM→Int→VM × Int) (HE:EnterOk D en):PrimOk D en (.with_ 2 340):=⟨by decide,by decide,do_resize D⟩
theorem all_storing (D:Int) (en:VM→Int→VM × Int) (HE:EnterOk D en):AllK (PrimOk D en) K_storing:=by
 unfold K_storing;exact (((((((((((((AllK.none _).put _ (prim_storing_0 D en HE)).put _ (prim_storing_1 D en HE)).put _ (prim_storing_2 D en HE)).put _ (prim_storing_3 D en HE)).put _ (prim_storing_4 D en HE)).put _ (prim_storing_5 D en HE)).put _ (prim_storing_6 D en HE)).put _ (prim_storing_7 D en HE)).put _ (prim_storing_8 D en HE)).put _ (prim_storing_9 D en HE)).put _ (prim_storing_10 D en HE)).put _ (prim_storing_11 D en HE)).put _ (prim_storing_12 D en HE)
theorem prim_telling_0 (D:Int) (en:VM→Int→VM × Int) (HE:EnterOk D en):PrimOk D en (.with_ 1 342):=⟨by decide,by decide,do_emit D⟩
theorem prim_telling_1 (D:Int) (en:VM→Int→VM × Int) (HE:EnterOk D en):PrimOk D en (.plain 343):=plain_cr
theorem prim_telling_2 (D:Int) (en:VM→Int→VM × Int) (HE:EnterOk D en):PrimOk D en (.plain 344):=plain_space
theorem prim_telling_3 (D:Int) (en:VM→Int→VM × Int) (HE:EnterOk D en):PrimOk D en (.with_ 2 345):=⟨by decide,by decide,do_type D⟩
theorem prim_telling_4 (D:Int) (en:VM→Int→VM × Int) (HE:EnterOk D en):PrimOk D en (.with_ 1 346):=⟨by decide,by decide,do_dot D⟩
theorem prim_telling_5 (D:Int) (en:VM→Int→VM × Int) (HE:EnterOk D en):PrimOk D en (.with_ 1 348):=⟨by decide,by decide,do_udot D⟩
theorem prim_telling_6 (D:Int) (en:VM→Int→VM × Int) (HE:EnterOk D en):PrimOk D en (.push 349):=get_key
theorem all_telling (D:Int) (en:VM→Int→VM × Int) (HE:EnterOk D en):AllK (PrimOk D en) K_telling:=by
 unfold K_telling;exact (((((((AllK.none _).put _ (prim_telling_0 D en HE)).put _ (prim_telling_1 D en HE)).put _ (prim_telling_2 D en HE)).put _ (prim_telling_3 D en HE)).put _ (prim_telling_4 D en HE)).put _ (prim_telling_5 D en HE)).put _ (prim_telling_6 D en HE)
theorem prim_catching_0 (D:Int) (en:VM→Int→VM × Int) (HE:EnterOk D en):PrimOk D en (.with_ 1 350):=⟨by decide,by decide,do_catch D en HE⟩
theorem prim_catching_1 (D:Int) (en:VM→Int→VM × Int) (HE:EnterOk D en):PrimOk D en (.plain 351):=plain_caught
theorem prim_catching_2 (D:Int) (en:VM→Int→VM × Int) (HE:EnterOk D en):PrimOk D en (.with_ 1 353):=⟨by decide,by decide,do_throw D⟩
theorem prim_catching_3 (D:Int) (en:VM→Int→VM × Int) (HE:EnterOk D en):PrimOk D en (.plain 354):=plain_abort
theorem all_catching (D:Int) (en:VM→Int→VM × Int) (HE:EnterOk D en):AllK (PrimOk D en) K_catching:=by
 unfold K_catching;exact ((((AllK.none _).put _ (prim_catching_0 D en HE)).put _ (prim_catching_1 D en HE)).put _ (prim_catching_2 D en HE)).put _ (prim_catching_3 D en HE)
theorem prim_objects_0 (D:Int) (en:VM→Int→VM × Int) (HE:EnterOk D en):PrimOk D en (.push 355):=get_self
theorem prim_objects_1 (D:Int) (en:VM→Int→VM × Int) (HE:EnterOk D en):PrimOk D en (.with_ 1 356):=⟨by decide,by decide,do_new D⟩
theorem prim_objects_2 (D:Int) (en:VM→Int→VM × Int) (HE:EnterOk D en):PrimOk D en (.with_ 1 358):=⟨by decide,by decide,do_class D⟩
theorem prim_objects_3 (D:Int) (en:VM→Int→VM × Int) (HE:EnterOk D en):PrimOk D en (.with_ 1 360):=⟨by decide,by decide,do_send D⟩
theorem prim_objects_4 (D:Int) (en:VM→Int→VM × Int) (HE:EnterOk D en):PrimOk D en (.with_ 1 362):=⟨by decide,by decide,do_method D⟩
theorem prim_objects_5 (D:Int) (en:VM→Int→VM × Int) (HE:EnterOk D en):PrimOk D en (.plain 364):=plain_early
theorem prim_objects_6 (D:Int) (en:VM→Int→VM × Int) (HE:EnterOk D en):PrimOk D en (.plain 365):=plain_leave
theorem all_objects (D:Int) (en:VM→Int→VM × Int) (HE:EnterOk D en):AllK (PrimOk D en) K_objects:=by
 unfold K_objects;exact (((((((AllK.none _).put _ (prim_objects_0 D en HE)).put _ (prim_objects_1 D en HE)).put _ (prim_objects_2 D en HE)).put _ (prim_objects_3 D en HE)).put _ (prim_objects_4 D en HE)).put _ (prim_objects_5 D en HE)).put _ (prim_objects_6 D en HE)
theorem all_prims (D:Int) (en:VM→Int→VM × Int) (HE:EnterOk D en):AllK (PrimOk D en) K_all:=by
 unfold K_all;exact (all_objects D en HE).over ((all_catching D en HE).over ((all_telling D en HE).over ((all_storing D en HE).over ((AllK.fold D en (AllK.none _) names).over ((all_moving D en HE).over ((all_flows D en HE).over (AllK.none _)))))))
theorem num_nameOf (n:Int) (h0:1≤n) (h1:n≤86):num (nameOf n)=n:=by
 have:∀ i:Fin 86,num (nameOf ((i.1:Int)+1))=(i.1:Int)+1:=by decide +kernel
 have h:=this ⟨(n-1).toNat,by omega⟩
 simp only at h
 rw [show (((n-1).toNat:Nat):Int)+1=n by omega] at h
 exact h
theorem nameOf_num (s:List UInt8) (h:s ∈ names):nameOf (num s)=s:=by
 obtain ⟨h1,e1⟩:=place_get s names h;have hl:=names_len;have hn:num s=(place s names:Int)+1:=by unfold num idx;rw [if_pos h1]
 unfold nameOf;rw [hn,if_pos (by omega),show ((place s names:Int)+1-1).toNat=place s names by omega,List.getD_eq_getElem?_getD,List.getElem?_eq_getElem h1]
 exact e1
theorem K_all_nil:K_all []=none:=by
 cases h:K_all [] with
 | none=>rfl
 | some k=>exact absurd (kin_all [] (by rw [h];simp)) (by decide +kernel)
def Found (X:Nat→Prop) (w:World) (r:Option Value) (k:Option Pk):Prop:=match k with
 | none=>r=none
 | some kd=>∃ v,r=some v∧Good X w kd v
theorem does_at {X:Nat→Prop} {w:World} {pb:Nat} (h:Does X w pb) (c:Int):∃ n g r,n≤500∧MapIs ik w pb n g∧g c=r∧Found X w r (K_all (nameOf c)):=by
 obtain ⟨n,g,hn,hm,h1,h2⟩:=h;refine ⟨n,g,g c,hn,hm,rfl,?_⟩;unfold Found
 cases hk:K_all (nameOf c) with
 | some kd =>
  obtain ⟨v,e,gd⟩:=h1 _ kd hk;have hne:nameOf c≠[]:=fun e=>by rw [e,K_all_nil] at hk;cases hk
  have hb:1≤c∧c≤86:=by
   rcases Decidable.em (1≤c∧c≤86) with h | h
   · exact h
   · exact absurd (by unfold nameOf;rw [if_neg h]) hne
  rw [num_nameOf c hb.1 hb.2] at e;exact ⟨v,e,gd⟩
 | none =>
  refine h2 c fun s hs e=>?_
  have hin:=kin_all s (by intro h;rw [h] at hs;cases hs)
  rw [← e,nameOf_num s hin] at hk;rw [hk] at hs
  cases hs
def Run3 (K:Bk) (w:World) (q:VM × Int) (u:Value):Prop :=
 (∃ f,u=.func (.func f) #[] #[]∧Enters f∧Calls Tryz.prog f #[.pointer (some ⟨K.mb,0,none⟩)] w (PV K w q)) ∨
 (∃ f a,u=.func (.func f) #[] #[a]∧Enters f∧Calls Tryz.prog f #[.pointer (some ⟨K.mb,0,none⟩),a] w (PV K w q)) ∨
 (∃ f a b,u=.func (.func f) #[] #[a,b]∧Enters f∧Calls Tryz.prog f #[.pointer (some ⟨K.mb,0,none⟩),a,b] w (PV K w q))
theorem enters_with:Enters 406:=fun args w=>Tryz.call406 args w
theorem enters_push:Enters 405:=fun args w=>Tryz.call405 args w
theorem enters_moves:Enters 409:=fun args w=>Tryz.call409 args w
theorem enters_look:Enters 413:=fun args w=>Tryz.call413 args w
theorem look_ok (D:Int) (f:Nat) (R:VM→Int→Int × Int) (ok:ReadOk f R):DoOk1 D 1 413 (fnV f) (VM.lookOf R) :=
 ⟨enters_look,fun K w v la c g L h _ xg hg hN hl hb=>fv_look K w v D f R ok la c g L h xg hg hN hl hb⟩
theorem good_run (D:Int) (en:VM→Int→VM × Int) (kd:Pk) (hk:PrimOk D en kd) (K:Bk) (w:World) (v:VM) (h:RFv w K v) (hd:v.d.depth<D+1) (u:Value) (hg:Good K.X w kd u):Run3 K w (VM.den en kd v) u:=by
 cases kd with
 | plain f =>
  have hk:PlainOk f (VM.plainF f):=hk;exact .inl ⟨f,hg,hk.ent,hk.ok K w v h⟩
 | with_ n f =>
  obtain ⟨h1,h8,ok⟩:1≤n∧n≤8∧DoOk D n.toNat f (VM.doF en f):=hk;obtain ⟨a,b,rfl,⟨ga,ta,rfl,xa,ha⟩,⟨gb,tb,rfl,xb,hb⟩⟩:=hg;have e:n=(n.toNat:Int):=by omega
  rw [e] at ha;exact .inr (.inr ⟨_,_,_,rfl,enters_with,fv_with0 K w v D n.toNat f _ (by omega) (by omega) ok ga gb h hd (cell_of ha rfl) (cell_of hb rfl) xa xb⟩)
 | push f =>
  have hk:GetOk f (VM.getF f):=hk;obtain ⟨a,rfl,⟨ga,ta,rfl,xa,ha⟩⟩:=hg;exact .inr (.inl ⟨_,_,rfl,enters_push,fv_pushof K w v f _ hk ga h (cell_of ha rfl)⟩)
 | moves n l =>
  obtain ⟨h1,h8,hl,hp⟩:1≤n∧n≤8∧l.length≤8∧∀ p ∈ l,0≤p∧p<n:=hk;obtain ⟨a,b,s,c,rfl,⟨ga,ta,rfl,xa,ha⟩,⟨gb,tb,rfl,xb,hb⟩,ho,xs⟩:=hg;have e:n=(n.toNat:Int):=by omega
  rw [e] at ha;exact .inr (.inr ⟨_,_,_,rfl,enters_moves,fv_moves K w v n.toNat l (by omega) (by omega) hl (fun p hp'=>by have:=hp p hp';omega) ga gb s c h (cell_of ha rfl) (cell_of hb rfl) ho xa xb xs⟩)
 | look f =>
  have hk:ReadOk f (VM.readF f):=hk;obtain ⟨a0,⟨a,b,rfl,⟨ga,ta,rfl,xa,ha⟩,⟨gb,tb,rfl,xb,hb⟩⟩,⟨gc,tc,rfl,xc,hc⟩⟩:=hg;exact .inr (.inr ⟨_,_,_,rfl,enters_with,fv_with1 K w v D 1 _ (fnV f) _ (by omega) (by omega) (look_ok D f _ hk) ga gb gc h hd (cell_of ha rfl) (cell_of hb rfl) (cell_of hc rfl) xa xb xc⟩)
 | two op =>
  obtain ⟨a0,⟨a,b,rfl,⟨ga,ta,rfl,xa,ha⟩,⟨gb,tb,rfl,xb,hb⟩⟩,⟨gc,tc,rfl,xc,hc⟩⟩:=hg;exact .inr (.inr ⟨_,_,_,rfl,enters_with,fv_with1 K w v D 2 _ (.string ⟨op.toArray⟩) _ (by omega) (by omega) (do_two D op hk) ga gb gc h hd (cell_of ha rfl) (cell_of hb rfl) (cell_of hc rfl) xa xb xc⟩)
 | one op =>
  obtain ⟨a0,⟨a,b,rfl,⟨ga,ta,rfl,xa,ha⟩,⟨gb,tb,rfl,xb,hb⟩⟩,⟨gc,tc,rfl,xc,hc⟩⟩:=hg;exact .inr (.inr ⟨_,_,_,rfl,enters_with,fv_with1 K w v D 1 _ (.string ⟨op.toArray⟩) _ (by omega) (by omega) (do_one D op hk) ga gb gc h hd (cell_of ha rfl) (cell_of hb rfl) (cell_of hc rfl) xa xb xc⟩)
end Go.Proofs.Shed
