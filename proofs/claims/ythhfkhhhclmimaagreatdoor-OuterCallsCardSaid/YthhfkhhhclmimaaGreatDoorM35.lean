/- Of CallsG: WFvX, WFvY, WFvZ, WFvRun. No condition. -/
import Derived.Test.YthhfkhhhclmimaaGreatDoorM34
set_option linter.unusedVariables false
set_option linter.unusedSimpArgs false
set_option maxRecDepth 10000
set_option maxHeartbeats 4000000
namespace Go.Proofs.Shed
open Go Go.RowKit Go.Proofs.K Go.Proofs.Cod
theorem cell_ok_bd {w:World} {K:Bk} {v:VM} (h:RFv w K v) (xt:Int) (hc:(v.cell xt).2=0):0≤xt∧xt≤4194304:=by
 have hb:=h.vm.sp.mem.le;unfold VM.cell Mem.cell at hc;split at hc
 · rename_i h1;rw [Mem.at_zero] at h1;omega
 · rename_i h1;exact absurd hc h1
theorem wf_of (c:Int) (h:Sixty c):(Lit.int .i64 c).wf=true:=by
 have:=wrap64_wf c
 rwa [IntWalk.wrap64_in c h] at this
theorem VM.enterF_eq (en:VM→Int→VM × Int) (v:VM) (xt:Int):VM.enterF en v xt =
 if (v.cell xt).2≠0 then (v,(v.cell xt).2) else
 if (v.cell xt).1=1001 then v.definition xt else
 if (v.cell xt).1=1002 then v.push [xt+8] else
 if (v.cell xt).1=1003∨(v.cell xt).1=1005 then
  (if (v.cell (xt+8)).2≠0 then (v,(v.cell (xt+8)).2) else v.push [if (v.cell xt).1=1005 then wrap64 ((v.cell (xt+8)).1+v.self) else (v.cell (xt+8)).1]) else
 match K_all (nameOf (v.cell xt).1) with
 | some pk=>VM.den en pk v
 | none=>(v,-14):=rfl
theorem enter_ok (D:Int) (en:VM→Int→VM × Int) (HE:EnterOk D en):EnterOk (D+1) (VM.enterF en):=by
 intro K w v xt h hd hx;have HC:=h_ (fv_cell K w v xt h);have hs:=VM.enterF_eq en v xt;generalize VM.enterF en v xt=Q at hs ⊢;have hbd:=cell_ok_bd h xt;have hcb:Sixty (v.cell xt).1:=Mem.cell_bd _ _;generalize v.cell xt=q at hs HC hbd hcb;obtain ⟨c,e⟩:=q;simp only at hs HC hbd hcb
 have R0:=h_ h;have K0:=h_ (Keeps.refl K.foot w);by_cases h1:e=0
 · subst h1
   obtain ⟨x0,x1⟩:=hbd rfl;rw [if_neg (by simp)] at hs
   by_cases h2:c=1001
   · rw [if_pos h2] at hs
     subst h2;have HP:=h_ (fv_definition K w v xt h x0 x1);generalize v.definition xt=q at HP hs;subst hs;have c0:=R0.out.m0;have cs:=R0.out.ms;clear h hd hx HE hcb
     go_enter Tryz.func310,Tryz.ntmps310
     go_wp2_with fail;refine (HC.out).mono ?_;rintro e w' ⟨rfl,rfl⟩;go_wp2_with fail;refine (HP.out).mono ?_;rintro e w1 ⟨rfl,r1,k1⟩;have R1:=h_ r1;have K1:=h_ (K0.out.trans k1);clear r1 k1
     try clear c0;try clear cs
     go_wp2_with fail;go_ret
     exact ⟨rfl,R1.out,K1.out⟩
   · rw [if_neg h2] at hs
     have d2:(c == 1001)=false:=by simp [h2]
     by_cases h3:c=1002
     · rw [if_pos h3] at hs
       subst h3;have HP:=h_ (fv_push1p K w v (xt+8) 2 h);generalize v.push [xt+8]=q at HP hs;subst hs;have c0:=R0.out.m0;have c1:=R0.out.m1;have cs:=R0.out.ms;clear h hd hx HE hcb h2
       go_enter Tryz.func310,Tryz.ntmps310
       go_wp2_with fail;refine (HC.out).mono ?_;rintro e w' ⟨rfl,rfl⟩;go_wp2_with fail;refine (HP.out).mono ?_;rintro e w1 ⟨rfl,r1,k1⟩;have R1:=h_ r1;have K1:=h_ (K0.out.trans k1);clear r1 k1
       try clear c0;try clear c1;try clear cs
       go_wp2_with fail;go_ret
       exact ⟨rfl,R1.out,K1.out⟩
     · rw [if_neg h3] at hs
       have d3:(c == 1002)=false:=by simp [h3]
       by_cases h4:c=1003
       · rw [if_pos (.inl h4)] at hs
         subst h4;have HC2:=h_ (fv_cell K w v (xt+8) h);generalize v.cell (xt+8)=q at HC2 hs;obtain ⟨n,e2⟩:=q;simp only at HC2 hs
         rw [if_neg (show ¬ (1003:Int)=1005 by decide)] at hs
         by_cases h5:e2=0
         · subst h5
           rw [if_neg (by simp)] at hs
           subst hs;have HP:=h_ (fv_push1p K w v n 2 h);have c0:=R0.out.m0;have c1:=R0.out.m1;have cs:=R0.out.ms;clear h hd hx HE hcb h2 h3
           go_enter Tryz.func310,Tryz.ntmps310
           go_wp2_with fail;refine (HC.out).mono ?_;rintro e w' ⟨rfl,rfl⟩;go_wp2_with fail;refine (HC2.out).mono ?_;rintro e w' ⟨rfl,rfl⟩;go_wp2_with fail;refine (HP.out).mono ?_;rintro e w1 ⟨rfl,r1,k1⟩;have R1:=h_ r1;have K1:=h_ (K0.out.trans k1);clear r1 k1
           try clear c0;try clear c1;try clear cs
           go_wp2_with fail;go_ret
           exact ⟨rfl,R1.out,K1.out⟩
         · rw [if_pos h5] at hs
           subst hs;have d5:(e2 != 0)=true:=by simp [h5]
           have c0:=R0.out.m0;have cs:=R0.out.ms;clear h hd hx HE hcb h2 h3 h5
           go_enter Tryz.func310,Tryz.ntmps310
           go_wp2_with fail;refine (HC.out).mono ?_;rintro e w' ⟨rfl,rfl⟩;go_wp2_with fail;refine (HC2.out).mono ?_;rintro e w' ⟨rfl,rfl⟩;go_wp2_with fail;go_ret
           exact ⟨rfl,R0.out,K0.out⟩
       · have d4:(c == 1003)=false:=by simp [h4]
         by_cases h4b:c=1005
         · rw [if_pos (.inr h4b)] at hs
           subst h4b;have HC2:=h_ (fv_cell K w v (xt+8) h);generalize v.cell (xt+8)=q at HC2 hs;obtain ⟨n,e2⟩:=q;simp only at HC2 hs
           rw [if_pos trivial] at hs;by_cases h5:e2=0
           · subst h5
             rw [if_neg (by simp)] at hs
             subst hs;have HP:=h_ (fv_push1p K w v (wrap64 (n+v.self)) 2 h);have c0:=R0.out.m0;have c1:=R0.out.m1;have c6:=R0.out.m6;have cs:=R0.out.ms;clear h hd hx HE hcb h2 h3 h4
             go_enter Tryz.func310,Tryz.ntmps310
             go_wp2_with fail;refine (HC.out).mono ?_;rintro e w' ⟨rfl,rfl⟩;go_wp2_with fail;refine (HC2.out).mono ?_;rintro e w' ⟨rfl,rfl⟩;go_wp2_with fail;refine (HP.out).mono ?_;rintro e w1 ⟨rfl,r1,k1⟩;have R1:=h_ r1;have K1:=h_ (K0.out.trans k1);clear r1 k1
             try clear c0;try clear c1;try clear c6;try clear cs
             go_wp2_with fail;go_ret
             exact ⟨rfl,R1.out,K1.out⟩
           · rw [if_pos h5] at hs
             subst hs;have d5:(e2 != 0)=true:=by simp [h5]
             have c0:=R0.out.m0;have cs:=R0.out.ms;clear h hd hx HE hcb h2 h3 h4 h5
             go_enter Tryz.func310,Tryz.ntmps310
             go_wp2_with fail;refine (HC.out).mono ?_;rintro e w' ⟨rfl,rfl⟩;go_wp2_with fail;refine (HC2.out).mono ?_;rintro e w' ⟨rfl,rfl⟩;go_wp2_with fail;go_ret
             exact ⟨rfl,R0.out,K0.out⟩
         · rw [if_neg (fun e=>e.elim h4 h4b)] at hs
           have d4b:(c == 1005)=false:=by simp [h4b]
           obtain ⟨nn,g,r,hn,hm,hr,hf⟩:=does_at h.vm.does c;have HM:=h_ hm;have HR:=h_ hr;have hwf:=h_ (wf_of c hcb);have c0:=R0.out.m0;have c17:=R0.out.m17;have cs:=R0.out.ms;unfold Found at hf
           cases hk:K_all (nameOf c) with
           | none =>
            rw [hk] at hf hs;simp only at hf hs
            subst hf;subst hs;clear h hd hx HE hcb h2 h3 h4 h4b hm hr hk
            go_enter Tryz.func310,Tryz.ntmps310
            go_wp2_with fail;refine (HC.out).mono ?_;rintro e w' ⟨rfl,rfl⟩
            go_wp2_with (first
             | (at_lookup;refine wpList_look ik _ rfl _ _ 45 rfl _ Tryz.underlying45 _ (zero_fn _) K.pb nn g rfl HM.out c hwf.out rfl _ HR.out ?_;dsimp only [Option.getD_none,Option.isSome_none]))
            go_wp2_with fail;go_ret
            exact ⟨rfl,R0.out,K0.out⟩
           | some pk =>
            rw [hk] at hf hs;simp only at hf hs
            obtain ⟨u,rfl,gd⟩:=hf;have hrun:=good_run D en pk (all_prims D en HE _ _ hk) K w v h hd u gd;generalize VM.den en pk v=q at hrun hs;subst hs;unfold Run3 at hrun;clear h hd hx HE hcb h2 h3 h4 h4b hm hr hk gd
            rcases hrun with ⟨f,rfl,hent,hc⟩ | ⟨f,a,rfl,hent,hc⟩ | ⟨f,a,b,rfl,hent,hc⟩
            · have HH:=h_ hc
              unfold Enters at hent;clear hc
              go_enter Tryz.func310,Tryz.ntmps310
              go_wp2_with fail;refine (HC.out).mono ?_;rintro e w' ⟨rfl,rfl⟩
              go_wp2_with (first
               | (at_lookup;refine wpList_look ik _ rfl _ _ 45 rfl _ Tryz.underlying45 _ (zero_fn _) K.pb nn g rfl HM.out c hwf.out rfl _ HR.out ?_;dsimp only [Option.getD_some,Option.isSome_some])
               | fail)
              refine (HH.out).mono ?_;rintro e w1 ⟨rfl,r1,k1⟩;have R1:=h_ r1;have K1:=h_ (K0.out.trans k1);clear r1 k1
              try clear c0;try clear c1;try clear c6;try clear c17;try clear cs
              go_wp2_with fail;go_ret
              exact ⟨rfl,R1.out,K1.out⟩
            · have HH:=h_ hc
              unfold Enters at hent;clear hc
              go_enter Tryz.func310,Tryz.ntmps310
              go_wp2_with fail;refine (HC.out).mono ?_;rintro e w' ⟨rfl,rfl⟩
              go_wp2_with (first
               | (at_lookup;refine wpList_look ik _ rfl _ _ 45 rfl _ Tryz.underlying45 _ (zero_fn _) K.pb nn g rfl HM.out c hwf.out rfl _ HR.out ?_;dsimp only [Option.getD_some,Option.isSome_some])
               | fail)
              refine (HH.out).mono ?_;rintro e w1 ⟨rfl,r1,k1⟩;have R1:=h_ r1;have K1:=h_ (K0.out.trans k1);clear r1 k1
              try clear c0;try clear c1;try clear c6;try clear c17;try clear cs
              go_wp2_with fail;go_ret
              exact ⟨rfl,R1.out,K1.out⟩
            · have HH:=h_ hc
              unfold Enters at hent;clear hc
              go_enter Tryz.func310,Tryz.ntmps310
              go_wp2_with fail;refine (HC.out).mono ?_;rintro e w' ⟨rfl,rfl⟩
              go_wp2_with (first
               | (at_lookup;refine wpList_look ik _ rfl _ _ 45 rfl _ Tryz.underlying45 _ (zero_fn _) K.pb nn g rfl HM.out c hwf.out rfl _ HR.out ?_;dsimp only [Option.getD_some,Option.isSome_some])
               | fail)
              refine (HH.out).mono ?_;rintro e w1 ⟨rfl,r1,k1⟩;have R1:=h_ r1;have K1:=h_ (K0.out.trans k1);clear r1 k1
              try clear c0;try clear c1;try clear c6;try clear c17;try clear cs
              go_wp2_with fail;go_ret
              exact ⟨rfl,R1.out,K1.out⟩
 · rw [if_pos h1] at hs
   subst hs;have d1:(e != 0)=true:=by simp [h1]
   have c0:=R0.out.m0;have cs:=R0.out.ms;clear h hd hx HE hbd hcb h1
   go_enter Tryz.func310,Tryz.ntmps310
   go_wp2_with fail;refine (HC.out).mono ?_;rintro e w' ⟨rfl,rfl⟩;go_wp2_with fail;go_ret
   exact ⟨rfl,R0.out,K0.out⟩
theorem enterN_ok:∀ k:Nat,EnterOk k (VM.enterN k)
 | 0=>fun K w v xt h hd _=>by
  have:=h.vm.dk.ok.2.2.1;exact absurd hd (by simp;omega)
 | k+1=>by
  have:=enter_ok k (VM.enterN k) (enterN_ok k);exact this
theorem fv_enter (K:Bk) (w:World) (v:VM) (xt:Int) (h:RFv w K v) (hx:Sixty xt):Calls Tryz.prog 310 #[.pointer (some ⟨K.mb,0,none⟩),.int .i64 xt] w (PV K w (v.enter xt)):=by
 have h0:=h.vm.dk.ok.2.2.1;exact enterN_ok (v.d.depth.toNat+1) K w v xt h (by omega) hx
def PVt (K:Bk) (w:World) (q:VM × Bool) (e:Ending) (w':World):Prop:=e=.returned (.bool q.2)∧RFv w' K q.1∧Keeps K.foot w w'
theorem rdrop_err (v:VM) (n:Int) (h:(v.rdrop n).2≠0):(v.rdrop n).1=v:=by
 unfold VM.rdrop Stk.drop at *;split at h
 · rename_i c;simp only [if_pos c]
 · rename_i c
   split at h
   · rename_i c2;simp only [if_neg c,if_pos c2]
   · exact absurd rfl h
theorem rdrop_ok (v:VM) (n:Int) (h:(v.rdrop n).2=0) (hn:v.r.Ok):(v.rdrop n).1.r.depth=n∧(v.rdrop n).1.x=v.x:=by
 obtain ⟨o1,o2,o3,o4,o5,o6,o7⟩:=hn;unfold VM.rdrop Stk.drop at *;split at h
 · simp at h
 · rename_i c
   split at h
   · exact absurd h o7
   · rename_i c2;simp only [if_neg c,if_neg c2];exact ⟨trivial,trivial⟩
theorem VM.throw_eq (v:VM) (e:Int):v.throw e =
 if v.handler<4∨e = -2053 then (v,false) else
 if (v.rdrop v.handler).2≠0 then (v,false) else
 if (VM.tops (v.rdrop v.handler).1.x.mem (v.rdrop v.handler).1.r 4).getD 2 0<0∨1048576<(VM.tops (v.rdrop v.handler).1.x.mem (v.rdrop v.handler).1.r 4).getD 2 0 then
  ({ ((v.rdrop v.handler).1.rdrop (v.handler-4)).1 with ip:=(VM.tops (v.rdrop v.handler).1.x.mem (v.rdrop v.handler).1.r 4).getD 0 0,self:=(VM.tops (v.rdrop v.handler).1.x.mem (v.rdrop v.handler).1.r 4).getD 1 0,handler:=VM.handlerOf ((VM.tops (v.rdrop v.handler).1.x.mem (v.rdrop v.handler).1.r 4).getD 3 0) },false) else
 if (VM.ddrop { ((v.rdrop v.handler).1.rdrop (v.handler-4)).1 with ip:=(VM.tops (v.rdrop v.handler).1.x.mem (v.rdrop v.handler).1.r 4).getD 0 0,self:=(VM.tops (v.rdrop v.handler).1.x.mem (v.rdrop v.handler).1.r 4).getD 1 0,handler:=VM.handlerOf ((VM.tops (v.rdrop v.handler).1.x.mem (v.rdrop v.handler).1.r 4).getD 3 0) } ((VM.tops (v.rdrop v.handler).1.x.mem (v.rdrop v.handler).1.r 4).getD 2 0)).2≠0 then
  ((VM.ddrop { ((v.rdrop v.handler).1.rdrop (v.handler-4)).1 with ip:=(VM.tops (v.rdrop v.handler).1.x.mem (v.rdrop v.handler).1.r 4).getD 0 0,self:=(VM.tops (v.rdrop v.handler).1.x.mem (v.rdrop v.handler).1.r 4).getD 1 0,handler:=VM.handlerOf ((VM.tops (v.rdrop v.handler).1.x.mem (v.rdrop v.handler).1.r 4).getD 3 0) } ((VM.tops (v.rdrop v.handler).1.x.mem (v.rdrop v.handler).1.r 4).getD 2 0)).1,false) else
 (((VM.ddrop { ((v.rdrop v.handler).1.rdrop (v.handler-4)).1 with ip:=(VM.tops (v.rdrop v.handler).1.x.mem (v.rdrop v.handler).1.r 4).getD 0 0,self:=(VM.tops (v.rdrop v.handler).1.x.mem (v.rdrop v.handler).1.r 4).getD 1 0,handler:=VM.handlerOf ((VM.tops (v.rdrop v.handler).1.x.mem (v.rdrop v.handler).1.r 4).getD 3 0) } ((VM.tops (v.rdrop v.handler).1.x.mem (v.rdrop v.handler).1.r 4).getD 2 0)).1.push [e]).1,
  decide (((VM.ddrop { ((v.rdrop v.handler).1.rdrop (v.handler-4)).1 with ip:=(VM.tops (v.rdrop v.handler).1.x.mem (v.rdrop v.handler).1.r 4).getD 0 0,self:=(VM.tops (v.rdrop v.handler).1.x.mem (v.rdrop v.handler).1.r 4).getD 1 0,handler:=VM.handlerOf ((VM.tops (v.rdrop v.handler).1.x.mem (v.rdrop v.handler).1.r 4).getD 3 0) } ((VM.tops (v.rdrop v.handler).1.x.mem (v.rdrop v.handler).1.r 4).getD 2 0)).1.push [e]).2=0)):=rfl
section
variable (K:Bk) (w:World) (v:VM)
theorem fv_dropd (n:Int) (h:RFv w K v):Calls Tryz.prog 53 #[.pointer (some ⟨K.db,0,none⟩),.int .i64 n] w (PVd K w (v.ddrop n)) :=
 (stk_drop w K.db K.b v.d n h.vm.dk).mono fun _ _ ⟨he,hd,k⟩=>⟨he,h.withD k hd (stk_drop_same _ _),k.mono (fun _ _ e=>.inl e)⟩
theorem fv_rdropd (n:Int) (h:RFv w K v):Calls Tryz.prog 53 #[.pointer (some ⟨K.rb,0,none⟩),.int .i64 n] w (PVr K w (v.rdrop n)) :=
 (stk_drop w K.rb K.b v.r n h.vm.rk).mono fun _ _ ⟨he,hd,k⟩=>⟨he,h.withR k hd (stk_drop_same _ _),k.mono (fun _ _ e=>.inl e)⟩
theorem fv_throw_no (e:Int) (h:RFv w K v) (hc:v.handler<4∨e = -2053):Calls Tryz.prog 428 #[.pointer (some ⟨K.mb,0,none⟩),.int .i64 e] w (PVt K w (v,false)):=by
 have y16:=fun (q:Stay w)=>q.2.cell h.m16 id
 have y2:=fun (q:Stay w)=>q.2.cell h.m2 id
 have R0:=h_ h;have K0:=h_ (Keeps.refl K.foot w);clear h;by_cases h1:v.handler<4
 · have d1:decide (v.handler<4)=true:=decide_eq_true h1
   clear h1 hc
   go_enter Tryz.func428,Tryz.ntmps428
   go_wp2_with fail;refine Go.Proofs.K.wp_region_calm ?calm1a ?calm1b ?_
   case calm1a=>kernel_rfl
   case calm1b=>kernel_rfl
   repeat ((with_reducible refine wpQuiet_step ?_);intro Kq hKq;go_simp;first | ((with_reducible refine hKq _ ?_);clear hKq Kq) | (refine hKq _ ?_;clear hKq Kq) | (apply Exists.intro;refine ⟨fun _=>?_,hKq _ ?_⟩;(fail);clear hKq Kq))
   with_reducible refine wpQuiet_nil ?_
   intro w1 hw';obtain ⟨⟨wq,kq⟩,hw''⟩:=hw';subst hw'';have R1:=h_ (R0.out.keeps0 kq);have K1:=h_ (foot0 K kq);go_wp2_with fail;go_ret
   exact ⟨rfl,R1.out,K1.out⟩
 · have d1:decide (v.handler<4)=false:=decide_eq_false h1
   have d2:e = -2053:=hc.elim (fun h=>absurd h h1) id
   subst d2;clear h1 hc
   go_enter Tryz.func428,Tryz.ntmps428
   go_wp2_with fail;refine Go.Proofs.K.wp_region_calm ?calm2a ?calm2b ?_
   case calm2a=>kernel_rfl
   case calm2b=>kernel_rfl
   repeat ((with_reducible refine wpQuiet_step ?_);intro Kq hKq;go_simp;first | ((with_reducible refine hKq _ ?_);clear hKq Kq) | (refine hKq _ ?_;clear hKq Kq) | (apply Exists.intro;refine ⟨fun _=>?_,hKq _ ?_⟩;(fail);clear hKq Kq))
   with_reducible refine wpQuiet_nil ?_
   intro w1 hw';obtain ⟨⟨wq,kq⟩,hw''⟩:=hw';subst hw'';have R1:=h_ (R0.out.keeps0 kq);have K1:=h_ (foot0 K kq);go_wp2_with fail;go_ret
   exact ⟨rfl,R1.out,K1.out⟩
theorem fv_throw_bad (e:Int) (h:RFv w K v) (h1:¬ v.handler<4) (h2:e ≠ -2053) (h3:(v.rdrop v.handler).2≠0):Calls Tryz.prog 428 #[.pointer (some ⟨K.mb,0,none⟩),.int .i64 e] w (PVt K w (v,false)):=by
 have HD1:=h_ fun V (hV:RFv V K v)=>fv_rdropd K V v v.handler hV
 rw [show v.rdrop v.handler=(v,(v.rdrop v.handler).2) from Prod.ext (rdrop_err v _ h3) rfl] at HD1
 generalize (v.rdrop v.handler).2=e1 at HD1 h3;have HN:=h_ (mb_nr K w v h);have R0:=h_ h;have K0:=h_ (Keeps.refl K.foot w);have c2:=R0.out.m2;have c16:=R0.out.m16;have d1:decide (v.handler<4)=false:=decide_eq_false h1;have d2:(e == -2053)=false:=by simp [h2]
 have d3:(e1 != 0)=true:=by simp [h3]
 clear h h1 h2 h3
 go_enter Tryz.func428,Tryz.ntmps428
 go_wp2_with fail
 go_region_held3 (fun w'=>w'.cell? ⟨K.mb,2,none⟩=some (.pointer (some ⟨K.rb,0,none⟩))∧w'.cell? ⟨K.mb,16,none⟩=some (.int .i64 v.handler))
  (first | go_keep | exact ⟨t2,t16⟩)
  (first | (go_at_call 53;refine (HD1.out w.drew (R0.out.keeps0 (Keeps.drew _ _))).mono ?_;rintro e w1 ⟨rfl,r1,k1⟩;dsimp only;have t2:=k1.cell c2 HN.out;have t16:=k1.cell c16 HN.out))
 have R1:=h_ r1;have K1:=h_ ((Keeps.drew K.foot w).trans (foot_rbb K k1));clear t2 t16 r1 k1 c2 c16;have R1:Hid (RFv w1 K v):=R1;go_wp2_with fail;go_ret
 exact ⟨rfl,R1.out,K1.out⟩
theorem fv_throw (e:Int) (h:RFv w K v):Calls Tryz.prog 428 #[.pointer (some ⟨K.mb,0,none⟩),.int .i64 e] w (PVt K w (v.throw e)):=by
 have hs:=VM.throw_eq v e;by_cases hA:v.handler<4∨e = -2053
 · rw [if_pos hA] at hs
   rw [hs];exact fv_throw_no K w v e h hA
 rw [if_neg hA] at hs;by_cases hB:(v.rdrop v.handler).2≠0
 · rw [if_pos hB] at hs
   rw [hs];exact fv_throw_bad K w v e h (fun e=>hA (.inl e)) (fun e=>hA (.inr e)) hB
 rw [if_neg hB] at hs;have h1:¬ v.handler<4:=fun e=>hA (.inl e)
 have h2:e ≠ -2053:=fun e=>hA (.inr e)
 generalize v.throw e=Q at hs ⊢;have hB0:(v.rdrop v.handler).2=0:=Decidable.byContradiction hB;obtain ⟨hdep,hxx⟩:=rdrop_ok v v.handler hB0 h.vm.rk.ok;have hhh:(v.rdrop v.handler).1.handler=v.handler:=rfl;have HD1:=h_ fun V (hV:RFv V K v)=>fv_rdropd K V v v.handler hV
 obtain ⟨k,hk⟩:∃ k:Nat,v.handler=(k:Int)+4:=⟨(v.handler-4).toNat,by omega⟩
 have hk6:k≤1048576:=by have:=h.ok.h1;omega
 generalize v.rdrop v.handler=q at hs hB0 hdep hhh HD1;obtain ⟨u,e1⟩:=q;simp only at hs hB0 hdep hhh
 subst hB0;have HA:=h_ fun V (hV:RFv V K u)=>fv_rall K V u k hV (by rw [hdep];exact hk)
 have HU:=h_ (hhh.trans hk);have hkd:(k:Int)+4-4=k:=by omega
 have HD2:=h_ fun V (hV:RFv V K u)=>fv_rdropd K V u (v.handler-4) hV
 generalize u.rdrop (v.handler-4)=q at hs HD2;obtain ⟨v2,e2⟩:=q;rw [hk,hkd] at HD2;generalize (VM.tops u.x.mem u.r 4).getD 0 0=l0 at HA hs;generalize (VM.tops u.x.mem u.r 4).getD 1 0=l1 at HA hs;generalize (VM.tops u.x.mem u.r 4).getD 2 0=l2 at HA hs;generalize (VM.tops u.x.mem u.r 4).getD 3 0=l3 at HA hs;have HH:=h_ fun V=>handler_of V l3
 have hb:=handlerOf_bd l3;generalize VM.handlerOf l3=l at HH hs hb;simp only at hs
 have HD3:=h_ fun V (hV:RFv V K { v2 with ip:=l0,self:=l1,handler:=l })=>fv_dropd K V { v2 with ip:=l0,self:=l1,handler:=l } l2 hV
 generalize VM.ddrop { v2 with ip:=l0,self:=l1,handler:=l } l2=q at hs HD3;obtain ⟨v4,e4⟩:=q;simp only at hs
 have HP:=h_ fun V (hV:RFv V K v4)=>fv_push1p K V v4 e 2 hV
 generalize v4.push [e]=q at hs HP;obtain ⟨v5,e5⟩:=q;simp only at hs
 have HN:=h_ (mb_nr K w v h);have HND:=h_ (mb_nd K w v h);have HFD:=h_ (show ∀ g,¬ K.foot g→¬ (g=K.db∨g=K.bb) from fun g n e=>e.elim (fun e=>n (.inr (.inr (.inr (.inl e))))) (fun e=>n (.inr (.inr (.inl e)))))
 have R0:=h_ h;have K0:=h_ (Keeps.refl K.foot w);have c2:=R0.out.m2;have c16:=R0.out.m16;have d1:decide (v.handler<4)=false:=decide_eq_false h1;have d2:(e == -2053)=false:=by simp [h2]
 have hw1:IntKind.i64.wrap ((k:Int)+4-4)=k:=by rw [hkd];exact IntWalk.i64_in _ (by omega)
 have hw2:IntKind.i64.wrap (k:Int)=k:=IntWalk.i64_in _ (by omega)
 have HS:=h_ hs;clear h h1 h2 hA hB hs hdep hxx hhh hk;by_cases h5:l2<0
 · have hs:=HS.out
   rw [if_pos (.inl h5)] at hs;subst hs;have d5:decide (l2<0)=true:=decide_eq_true h5;clear HS h5 HP HD3
   go_enter Tryz.func428,Tryz.ntmps428
   go_wp2_with fail
   go_region_held3 (fun w'=>w'.cell? ⟨K.mb,2,none⟩=some (.pointer (some ⟨K.rb,0,none⟩))∧w'.cell? ⟨K.mb,16,none⟩=some (.int .i64 v.handler))
    (first | go_keep | exact ⟨t2,t16⟩)
    (first | (go_at_call 53;refine (HD1.out w.drew (R0.out.keeps0 (Keeps.drew _ _))).mono ?_;rintro e w1 ⟨rfl,r1,k1⟩;dsimp only;have t2:=k1.cell c2 HN.out;have t16:=k1.cell c16 HN.out))
   have R1:=h_ r1;have K1:=h_ ((Keeps.drew K.foot w).trans (foot_rbb K k1));clear t2 t16 r1 k1 c2 c16;have R1:Hid (RFv w1 K u):=R1;have c2:=R1.out.m2;go_wp2_with fail;refine (HA.out w1 R1.out).mono ?_;rintro e w2 ⟨g,c,rfl,hc,hg,⟨z0,z1,z2,z3⟩,k2⟩;have R2:=h_ (R1.out.keeps0 k2);have K2:=h_ (K1.out.trans (foot0 K k2));have HLS:=h_ R1.out.lts
   have ng:¬ K.foot g:=fun e=>by
    have:=HLS.out;unfold Bk.foot at e;omega
   have NG:=h_ ng;clear k2 ng c2;have HC:=h_ hc;clear hg;have c2:=R2.out.m2;have c16:=R2.out.m16;rw [HU.out] at c16;go_wp2_with fail
   go_region_held3 (fun w'=>w'.cell? ⟨K.mb,2,none⟩=some (.pointer (some ⟨K.rb,0,none⟩))∧w'.cell? ⟨K.mb,16,none⟩=some (.int .i64 ((k:Int)+4)))
    (first | go_keep | exact ⟨t2,t16⟩)
    (first | (go_at_call 53;refine (HD2.out w2.drew (R2.out.keeps0 (Keeps.drew _ _))).mono ?_;rintro e w4 ⟨rfl,r4,k4⟩;dsimp only;have t2:=k4.cell c2 HN.out;have t16:=k4.cell c16 HN.out))
   have R4:=h_ r4;have KG:=h_ ((Keeps.drew K.foot w2).trans (foot_rbb K k4));have K4:=h_ (K2.out.trans KG.out);clear t2 t16 r4 k4 c2 c16;have z0':w4.cell? ⟨g,k,none⟩=some (.int .i64 l0):=KG.out.cell z0 NG.out;have z1':w4.cell? ⟨g,k+1,none⟩=some (.int .i64 l1):=KG.out.cell z1 NG.out;have z2':w4.cell? ⟨g,k+2,none⟩=some (.int .i64 l2):=KG.out.cell z2 NG.out;have z3':w4.cell? ⟨g,k+3,none⟩=some (.int .i64 l3):=KG.out.cell z3 NG.out;clear z0 z1 z2 z3 KG;have HT:=h_ (R4.out.set3 l0 l1 l hb.1 hb.2);have J1:=h_ ((keeps_set1 w4 K.mb 5 (.int .i64 l0)).trans (Keeps.drew _ _));have J2:=h_ (((keeps_set1 w4 K.mb 5 (.int .i64 l0)).trans (keeps_set1 _ K.mb 6 (.int .i64 l1))).trans (Keeps.drew _ _));have J3:=h_ ((keeps_set3 w4 K.mb (.int .i64 l0) (.int .i64 l1) (.int .i64 l)).trans (Keeps.drew _ _));have c5:=R4.out.m5;have c6:=R4.out.m6;have c16:=R4.out.m16;have f5:=R4.out.free 5;have f6:=R4.out.free 6;have f16:=R4.out.free 16;have NGM:=h_ (show g≠K.mb from fun e=>NG.out (.inl e))
   have q10:(w4.setCell ⟨K.mb,5,none⟩ (.int .i64 l0)).drew.cell? ⟨g,k,none⟩=some (.int .i64 l0):=J1.out.cell z0' NGM.out;have q11:(w4.setCell ⟨K.mb,5,none⟩ (.int .i64 l0)).drew.cell? ⟨g,k+1,none⟩=some (.int .i64 l1):=J1.out.cell z1' NGM.out;have q13:(w4.setCell ⟨K.mb,5,none⟩ (.int .i64 l0)).drew.cell? ⟨g,k+3,none⟩=some (.int .i64 l3):=J1.out.cell z3' NGM.out;have q20:((w4.setCell ⟨K.mb,5,none⟩ (.int .i64 l0)).setCell ⟨K.mb,6,none⟩ (.int .i64 l1)).drew.cell? ⟨g,k,none⟩=some (.int .i64 l0):=J2.out.cell z0' NGM.out;have q21:((w4.setCell ⟨K.mb,5,none⟩ (.int .i64 l0)).setCell ⟨K.mb,6,none⟩ (.int .i64 l1)).drew.cell? ⟨g,k+1,none⟩=some (.int .i64 l1):=J2.out.cell z1' NGM.out;have q23:((w4.setCell ⟨K.mb,5,none⟩ (.int .i64 l0)).setCell ⟨K.mb,6,none⟩ (.int .i64 l1)).drew.cell? ⟨g,k+3,none⟩=some (.int .i64 l3):=J2.out.cell z3' NGM.out;have q30:(((w4.setCell ⟨K.mb,5,none⟩ (.int .i64 l0)).setCell ⟨K.mb,6,none⟩ (.int .i64 l1)).setCell ⟨K.mb,16,none⟩ (.int .i64 l)).drew.cell? ⟨g,k,none⟩=some (.int .i64 l0):=J3.out.cell z0' NGM.out;have q31:(((w4.setCell ⟨K.mb,5,none⟩ (.int .i64 l0)).setCell ⟨K.mb,6,none⟩ (.int .i64 l1)).setCell ⟨K.mb,16,none⟩ (.int .i64 l)).drew.cell? ⟨g,k+1,none⟩=some (.int .i64 l1):=J3.out.cell z1' NGM.out;have q33:(((w4.setCell ⟨K.mb,5,none⟩ (.int .i64 l0)).setCell ⟨K.mb,6,none⟩ (.int .i64 l1)).setCell ⟨K.mb,16,none⟩ (.int .i64 l)).drew.cell? ⟨g,k+3,none⟩=some (.int .i64 l3):=J3.out.cell z3' NGM.out;go_wp2_with fail
   go_region_held3 (fun w'=>w'.cell? ⟨g,k,none⟩=some (.int .i64 l0)∧w'.cell? ⟨g,k+1,none⟩=some (.int .i64 l1)∧w'.cell? ⟨g,k+3,none⟩=some (.int .i64 l3))
    (first | go_keep)
    (first | (go_at_call 352;refine (HH.out _).mono ?_;rintro e w9 ⟨rfl,rfl⟩;dsimp only))
   have R5:=h_ (HT.out.keeps0 (Keeps.drew _ _));have K5:=h_ (K4.out.trans (foot_mb K J3.out));have zz:=J3.out.cell z2' NGM.out;clear q10 q11 q13 q20 q21 q23 q30 q31 q33 z0' z1' z2' z3' c5 c6 c16 f5 f6 f16 HT J1 J2 J3;generalize (((w4.setCell ⟨K.mb,5,none⟩ (.int .i64 l0)).setCell ⟨K.mb,6,none⟩ (.int .i64 l1)).setCell ⟨K.mb,16,none⟩ (.int .i64 l)).drew=w5 at R5 K5 zz ⊢
   skip
   have zy:=fun (q:Stay w5)=>q.2.cell zz id
   have y1:=fun (q:Stay w5)=>q.2.cell R5.out.m1 id
   go_wp2_with fail;refine Go.Proofs.K.wp_region_calm ?calm3a ?calm3b ?_
   case calm3a=>kernel_rfl
   case calm3b=>kernel_rfl
   repeat ((with_reducible refine wpQuiet_step ?_);intro Kq hKq;go_simp;first | ((with_reducible refine hKq _ ?_);clear hKq Kq) | (refine hKq _ ?_;clear hKq Kq) | (apply Exists.intro;refine ⟨fun _=>?_,hKq _ ?_⟩;(fail);clear hKq Kq))
   with_reducible refine wpQuiet_nil ?_
   intro w6 hw';obtain ⟨⟨wq,kq⟩,hw''⟩:=hw';subst hw'';have R6:=h_ (R5.out.keeps0 kq);have K6:=h_ (K5.out.trans (foot0 K kq));go_wp2_with fail;go_ret
   exact ⟨rfl,R6.out,K6.out⟩
 · have d5:decide (l2<0)=false:=decide_eq_false h5
   by_cases h6:1048576<l2
   · have hs:=HS.out
     rw [if_pos (.inr h6)] at hs;subst hs;have d6:decide (1048576<l2)=true:=decide_eq_true h6;clear HS h5 h6 HP HD3
     go_enter Tryz.func428,Tryz.ntmps428
     go_wp2_with fail
     go_region_held3 (fun w'=>w'.cell? ⟨K.mb,2,none⟩=some (.pointer (some ⟨K.rb,0,none⟩))∧w'.cell? ⟨K.mb,16,none⟩=some (.int .i64 v.handler))
      (first | go_keep | exact ⟨t2,t16⟩)
      (first | (go_at_call 53;refine (HD1.out w.drew (R0.out.keeps0 (Keeps.drew _ _))).mono ?_;rintro e w1 ⟨rfl,r1,k1⟩;dsimp only;have t2:=k1.cell c2 HN.out;have t16:=k1.cell c16 HN.out))
     have R1:=h_ r1;have K1:=h_ ((Keeps.drew K.foot w).trans (foot_rbb K k1));clear t2 t16 r1 k1 c2 c16;have R1:Hid (RFv w1 K u):=R1;have c2:=R1.out.m2;go_wp2_with fail;refine (HA.out w1 R1.out).mono ?_;rintro e w2 ⟨g,c,rfl,hc,hg,⟨z0,z1,z2,z3⟩,k2⟩;have R2:=h_ (R1.out.keeps0 k2);have K2:=h_ (K1.out.trans (foot0 K k2));have HLS:=h_ R1.out.lts
     have ng:¬ K.foot g:=fun e=>by
      have:=HLS.out;unfold Bk.foot at e;omega
     have NG:=h_ ng;clear k2 ng c2;have HC:=h_ hc;clear hg;have c2:=R2.out.m2;have c16:=R2.out.m16;rw [HU.out] at c16;go_wp2_with fail
     go_region_held3 (fun w'=>w'.cell? ⟨K.mb,2,none⟩=some (.pointer (some ⟨K.rb,0,none⟩))∧w'.cell? ⟨K.mb,16,none⟩=some (.int .i64 ((k:Int)+4)))
      (first | go_keep | exact ⟨t2,t16⟩)
      (first | (go_at_call 53;refine (HD2.out w2.drew (R2.out.keeps0 (Keeps.drew _ _))).mono ?_;rintro e w4 ⟨rfl,r4,k4⟩;dsimp only;have t2:=k4.cell c2 HN.out;have t16:=k4.cell c16 HN.out))
     have R4:=h_ r4;have KG:=h_ ((Keeps.drew K.foot w2).trans (foot_rbb K k4));have K4:=h_ (K2.out.trans KG.out);clear t2 t16 r4 k4 c2 c16;have z0':w4.cell? ⟨g,k,none⟩=some (.int .i64 l0):=KG.out.cell z0 NG.out;have z1':w4.cell? ⟨g,k+1,none⟩=some (.int .i64 l1):=KG.out.cell z1 NG.out;have z2':w4.cell? ⟨g,k+2,none⟩=some (.int .i64 l2):=KG.out.cell z2 NG.out;have z3':w4.cell? ⟨g,k+3,none⟩=some (.int .i64 l3):=KG.out.cell z3 NG.out;clear z0 z1 z2 z3 KG;have HT:=h_ (R4.out.set3 l0 l1 l hb.1 hb.2);have J1:=h_ ((keeps_set1 w4 K.mb 5 (.int .i64 l0)).trans (Keeps.drew _ _));have J2:=h_ (((keeps_set1 w4 K.mb 5 (.int .i64 l0)).trans (keeps_set1 _ K.mb 6 (.int .i64 l1))).trans (Keeps.drew _ _));have J3:=h_ ((keeps_set3 w4 K.mb (.int .i64 l0) (.int .i64 l1) (.int .i64 l)).trans (Keeps.drew _ _));have c5:=R4.out.m5;have c6:=R4.out.m6;have c16:=R4.out.m16;have f5:=R4.out.free 5;have f6:=R4.out.free 6;have f16:=R4.out.free 16;have NGM:=h_ (show g≠K.mb from fun e=>NG.out (.inl e))
     have q10:(w4.setCell ⟨K.mb,5,none⟩ (.int .i64 l0)).drew.cell? ⟨g,k,none⟩=some (.int .i64 l0):=J1.out.cell z0' NGM.out;have q11:(w4.setCell ⟨K.mb,5,none⟩ (.int .i64 l0)).drew.cell? ⟨g,k+1,none⟩=some (.int .i64 l1):=J1.out.cell z1' NGM.out;have q13:(w4.setCell ⟨K.mb,5,none⟩ (.int .i64 l0)).drew.cell? ⟨g,k+3,none⟩=some (.int .i64 l3):=J1.out.cell z3' NGM.out;have q20:((w4.setCell ⟨K.mb,5,none⟩ (.int .i64 l0)).setCell ⟨K.mb,6,none⟩ (.int .i64 l1)).drew.cell? ⟨g,k,none⟩=some (.int .i64 l0):=J2.out.cell z0' NGM.out;have q21:((w4.setCell ⟨K.mb,5,none⟩ (.int .i64 l0)).setCell ⟨K.mb,6,none⟩ (.int .i64 l1)).drew.cell? ⟨g,k+1,none⟩=some (.int .i64 l1):=J2.out.cell z1' NGM.out;have q23:((w4.setCell ⟨K.mb,5,none⟩ (.int .i64 l0)).setCell ⟨K.mb,6,none⟩ (.int .i64 l1)).drew.cell? ⟨g,k+3,none⟩=some (.int .i64 l3):=J2.out.cell z3' NGM.out;have q30:(((w4.setCell ⟨K.mb,5,none⟩ (.int .i64 l0)).setCell ⟨K.mb,6,none⟩ (.int .i64 l1)).setCell ⟨K.mb,16,none⟩ (.int .i64 l)).drew.cell? ⟨g,k,none⟩=some (.int .i64 l0):=J3.out.cell z0' NGM.out;have q31:(((w4.setCell ⟨K.mb,5,none⟩ (.int .i64 l0)).setCell ⟨K.mb,6,none⟩ (.int .i64 l1)).setCell ⟨K.mb,16,none⟩ (.int .i64 l)).drew.cell? ⟨g,k+1,none⟩=some (.int .i64 l1):=J3.out.cell z1' NGM.out;have q33:(((w4.setCell ⟨K.mb,5,none⟩ (.int .i64 l0)).setCell ⟨K.mb,6,none⟩ (.int .i64 l1)).setCell ⟨K.mb,16,none⟩ (.int .i64 l)).drew.cell? ⟨g,k+3,none⟩=some (.int .i64 l3):=J3.out.cell z3' NGM.out;go_wp2_with fail
     go_region_held3 (fun w'=>w'.cell? ⟨g,k,none⟩=some (.int .i64 l0)∧w'.cell? ⟨g,k+1,none⟩=some (.int .i64 l1)∧w'.cell? ⟨g,k+3,none⟩=some (.int .i64 l3))
      (first | go_keep)
      (first | (go_at_call 352;refine (HH.out _).mono ?_;rintro e w9 ⟨rfl,rfl⟩;dsimp only))
     have R5:=h_ (HT.out.keeps0 (Keeps.drew _ _));have K5:=h_ (K4.out.trans (foot_mb K J3.out));have zz:=J3.out.cell z2' NGM.out;clear q10 q11 q13 q20 q21 q23 q30 q31 q33 z0' z1' z2' z3' c5 c6 c16 f5 f6 f16 HT J1 J2 J3;generalize (((w4.setCell ⟨K.mb,5,none⟩ (.int .i64 l0)).setCell ⟨K.mb,6,none⟩ (.int .i64 l1)).setCell ⟨K.mb,16,none⟩ (.int .i64 l)).drew=w5 at R5 K5 zz ⊢
     skip
     have zy:=fun (q:Stay w5)=>q.2.cell zz id
     have y1:=fun (q:Stay w5)=>q.2.cell R5.out.m1 id
     go_wp2_with fail;refine Go.Proofs.K.wp_region_calm ?calm4a ?calm4b ?_
     case calm4a=>kernel_rfl
     case calm4b=>kernel_rfl
     repeat ((with_reducible refine wpQuiet_step ?_);intro Kq hKq;go_simp;first | ((with_reducible refine hKq _ ?_);clear hKq Kq) | (refine hKq _ ?_;clear hKq Kq) | (apply Exists.intro;refine ⟨fun _=>?_,hKq _ ?_⟩;(fail);clear hKq Kq))
     with_reducible refine wpQuiet_nil ?_
     intro w6 hw';obtain ⟨⟨wq,kq⟩,hw''⟩:=hw';subst hw'';have R6:=h_ (R5.out.keeps0 kq);have K6:=h_ (K5.out.trans (foot0 K kq));go_wp2_with fail;go_ret
     exact ⟨rfl,R6.out,K6.out⟩
   · have d6:decide (1048576<l2)=false:=decide_eq_false h6
     by_cases h7:e4=0
     · subst h7
       have hs:=HS.out;rw [if_neg (fun e=>e.elim h5 h6),if_neg (by simp)] at hs
       subst hs;clear HS h5 h6
       go_enter Tryz.func428,Tryz.ntmps428
       go_wp2_with fail
       go_region_held3 (fun w'=>w'.cell? ⟨K.mb,2,none⟩=some (.pointer (some ⟨K.rb,0,none⟩))∧w'.cell? ⟨K.mb,16,none⟩=some (.int .i64 v.handler))
        (first | go_keep | exact ⟨t2,t16⟩)
        (first | (go_at_call 53;refine (HD1.out w.drew (R0.out.keeps0 (Keeps.drew _ _))).mono ?_;rintro e w1 ⟨rfl,r1,k1⟩;dsimp only;have t2:=k1.cell c2 HN.out;have t16:=k1.cell c16 HN.out))
       have R1:=h_ r1;have K1:=h_ ((Keeps.drew K.foot w).trans (foot_rbb K k1));clear t2 t16 r1 k1 c2 c16;have R1:Hid (RFv w1 K u):=R1;have c2:=R1.out.m2;go_wp2_with fail;refine (HA.out w1 R1.out).mono ?_;rintro e w2 ⟨g,c,rfl,hc,hg,⟨z0,z1,z2,z3⟩,k2⟩;have R2:=h_ (R1.out.keeps0 k2);have K2:=h_ (K1.out.trans (foot0 K k2));have HLS:=h_ R1.out.lts
       have ng:¬ K.foot g:=fun e=>by
        have:=HLS.out;unfold Bk.foot at e;omega
       have NG:=h_ ng;clear k2 ng c2;have HC:=h_ hc;clear hg;have c2:=R2.out.m2;have c16:=R2.out.m16;rw [HU.out] at c16;go_wp2_with fail
       go_region_held3 (fun w'=>w'.cell? ⟨K.mb,2,none⟩=some (.pointer (some ⟨K.rb,0,none⟩))∧w'.cell? ⟨K.mb,16,none⟩=some (.int .i64 ((k:Int)+4)))
        (first | go_keep | exact ⟨t2,t16⟩)
        (first | (go_at_call 53;refine (HD2.out w2.drew (R2.out.keeps0 (Keeps.drew _ _))).mono ?_;rintro e w4 ⟨rfl,r4,k4⟩;dsimp only;have t2:=k4.cell c2 HN.out;have t16:=k4.cell c16 HN.out))
       have R4:=h_ r4;have KG:=h_ ((Keeps.drew K.foot w2).trans (foot_rbb K k4));have K4:=h_ (K2.out.trans KG.out);clear t2 t16 r4 k4 c2 c16;have z0':w4.cell? ⟨g,k,none⟩=some (.int .i64 l0):=KG.out.cell z0 NG.out;have z1':w4.cell? ⟨g,k+1,none⟩=some (.int .i64 l1):=KG.out.cell z1 NG.out;have z2':w4.cell? ⟨g,k+2,none⟩=some (.int .i64 l2):=KG.out.cell z2 NG.out;have z3':w4.cell? ⟨g,k+3,none⟩=some (.int .i64 l3):=KG.out.cell z3 NG.out;clear z0 z1 z2 z3 KG;have HT:=h_ (R4.out.set3 l0 l1 l hb.1 hb.2);have J1:=h_ ((keeps_set1 w4 K.mb 5 (.int .i64 l0)).trans (Keeps.drew _ _));have J2:=h_ (((keeps_set1 w4 K.mb 5 (.int .i64 l0)).trans (keeps_set1 _ K.mb 6 (.int .i64 l1))).trans (Keeps.drew _ _));have J3:=h_ ((keeps_set3 w4 K.mb (.int .i64 l0) (.int .i64 l1) (.int .i64 l)).trans (Keeps.drew _ _));have c5:=R4.out.m5;have c6:=R4.out.m6;have c16:=R4.out.m16;have f5:=R4.out.free 5;have f6:=R4.out.free 6;have f16:=R4.out.free 16;have NGM:=h_ (show g≠K.mb from fun e=>NG.out (.inl e))
       have q10:(w4.setCell ⟨K.mb,5,none⟩ (.int .i64 l0)).drew.cell? ⟨g,k,none⟩=some (.int .i64 l0):=J1.out.cell z0' NGM.out;have q11:(w4.setCell ⟨K.mb,5,none⟩ (.int .i64 l0)).drew.cell? ⟨g,k+1,none⟩=some (.int .i64 l1):=J1.out.cell z1' NGM.out;have q13:(w4.setCell ⟨K.mb,5,none⟩ (.int .i64 l0)).drew.cell? ⟨g,k+3,none⟩=some (.int .i64 l3):=J1.out.cell z3' NGM.out;have q20:((w4.setCell ⟨K.mb,5,none⟩ (.int .i64 l0)).setCell ⟨K.mb,6,none⟩ (.int .i64 l1)).drew.cell? ⟨g,k,none⟩=some (.int .i64 l0):=J2.out.cell z0' NGM.out;have q21:((w4.setCell ⟨K.mb,5,none⟩ (.int .i64 l0)).setCell ⟨K.mb,6,none⟩ (.int .i64 l1)).drew.cell? ⟨g,k+1,none⟩=some (.int .i64 l1):=J2.out.cell z1' NGM.out;have q23:((w4.setCell ⟨K.mb,5,none⟩ (.int .i64 l0)).setCell ⟨K.mb,6,none⟩ (.int .i64 l1)).drew.cell? ⟨g,k+3,none⟩=some (.int .i64 l3):=J2.out.cell z3' NGM.out;have q30:(((w4.setCell ⟨K.mb,5,none⟩ (.int .i64 l0)).setCell ⟨K.mb,6,none⟩ (.int .i64 l1)).setCell ⟨K.mb,16,none⟩ (.int .i64 l)).drew.cell? ⟨g,k,none⟩=some (.int .i64 l0):=J3.out.cell z0' NGM.out;have q31:(((w4.setCell ⟨K.mb,5,none⟩ (.int .i64 l0)).setCell ⟨K.mb,6,none⟩ (.int .i64 l1)).setCell ⟨K.mb,16,none⟩ (.int .i64 l)).drew.cell? ⟨g,k+1,none⟩=some (.int .i64 l1):=J3.out.cell z1' NGM.out;have q33:(((w4.setCell ⟨K.mb,5,none⟩ (.int .i64 l0)).setCell ⟨K.mb,6,none⟩ (.int .i64 l1)).setCell ⟨K.mb,16,none⟩ (.int .i64 l)).drew.cell? ⟨g,k+3,none⟩=some (.int .i64 l3):=J3.out.cell z3' NGM.out;go_wp2_with fail
       go_region_held3 (fun w'=>w'.cell? ⟨g,k,none⟩=some (.int .i64 l0)∧w'.cell? ⟨g,k+1,none⟩=some (.int .i64 l1)∧w'.cell? ⟨g,k+3,none⟩=some (.int .i64 l3))
        (first | go_keep)
        (first | (go_at_call 352;refine (HH.out _).mono ?_;rintro e w9 ⟨rfl,rfl⟩;dsimp only))
       have R5:=h_ (HT.out.keeps0 (Keeps.drew _ _));have K5:=h_ (K4.out.trans (foot_mb K J3.out));have zz:=J3.out.cell z2' NGM.out;clear q10 q11 q13 q20 q21 q23 q30 q31 q33 z0' z1' z2' z3' c5 c6 c16 f5 f6 f16 HT J1 J2 J3;generalize (((w4.setCell ⟨K.mb,5,none⟩ (.int .i64 l0)).setCell ⟨K.mb,6,none⟩ (.int .i64 l1)).setCell ⟨K.mb,16,none⟩ (.int .i64 l)).drew=w5 at R5 K5 zz ⊢
       skip
       have c1:=R5.out.m1;go_wp2_with fail
       go_region_held3 (fun w'=>w'.cell? ⟨K.mb,1,none⟩=some (.pointer (some ⟨K.db,0,none⟩))∧w'.cell? ⟨g,k+2,none⟩=some (.int .i64 l2))
        (first | go_keep | exact ⟨t1,tz⟩)
        (first | (go_at_call 53;refine (HD3.out w5.drew (R5.out.keeps0 (Keeps.drew _ _))).mono ?_;rintro e w6 ⟨rfl,r6,k6⟩;dsimp only;have t1:=k6.cell c1 HND.out;have tz:=k6.cell zz (HFD.out g NG.out)))
       have R6:Hid (RFv w6 K v4):=h_ r6;have K6:=h_ ((K5.out.trans (Keeps.drew K.foot w5)).trans (foot_dbb K k6));clear t1 tz r6 k6 c1 zz;have c1:=R6.out.m1;go_wp2_with fail;refine (HP.out w6 R6.out).mono ?_;rintro e w7 ⟨rfl,r7,k7⟩;have R7:=h_ r7;have K7:=h_ (K6.out.trans k7);clear r7 k7
       try clear c1;try clear c2;try clear c5;try clear c6;try clear c16
       go_wp2_with fail;go_ret
       exact ⟨rfl,R7.out,K7.out⟩
     · have hs:=HS.out
       rw [if_neg (fun e=>e.elim h5 h6),if_pos h7] at hs
       subst hs;have d7:(e4 != 0)=true:=by simp [h7]
       clear HS h5 h6 h7 HP
       go_enter Tryz.func428,Tryz.ntmps428
       go_wp2_with fail
       go_region_held3 (fun w'=>w'.cell? ⟨K.mb,2,none⟩=some (.pointer (some ⟨K.rb,0,none⟩))∧w'.cell? ⟨K.mb,16,none⟩=some (.int .i64 v.handler))
        (first | go_keep | exact ⟨t2,t16⟩)
        (first | (go_at_call 53;refine (HD1.out w.drew (R0.out.keeps0 (Keeps.drew _ _))).mono ?_;rintro e w1 ⟨rfl,r1,k1⟩;dsimp only;have t2:=k1.cell c2 HN.out;have t16:=k1.cell c16 HN.out))
       have R1:=h_ r1;have K1:=h_ ((Keeps.drew K.foot w).trans (foot_rbb K k1));clear t2 t16 r1 k1 c2 c16;have R1:Hid (RFv w1 K u):=R1;have c2:=R1.out.m2;go_wp2_with fail;refine (HA.out w1 R1.out).mono ?_;rintro e w2 ⟨g,c,rfl,hc,hg,⟨z0,z1,z2,z3⟩,k2⟩;have R2:=h_ (R1.out.keeps0 k2);have K2:=h_ (K1.out.trans (foot0 K k2));have HLS:=h_ R1.out.lts
       have ng:¬ K.foot g:=fun e=>by
        have:=HLS.out;unfold Bk.foot at e;omega
       have NG:=h_ ng;clear k2 ng c2;have HC:=h_ hc;clear hg;have c2:=R2.out.m2;have c16:=R2.out.m16;rw [HU.out] at c16;go_wp2_with fail
       go_region_held3 (fun w'=>w'.cell? ⟨K.mb,2,none⟩=some (.pointer (some ⟨K.rb,0,none⟩))∧w'.cell? ⟨K.mb,16,none⟩=some (.int .i64 ((k:Int)+4)))
        (first | go_keep | exact ⟨t2,t16⟩)
        (first | (go_at_call 53;refine (HD2.out w2.drew (R2.out.keeps0 (Keeps.drew _ _))).mono ?_;rintro e w4 ⟨rfl,r4,k4⟩;dsimp only;have t2:=k4.cell c2 HN.out;have t16:=k4.cell c16 HN.out))
       have R4:=h_ r4;have KG:=h_ ((Keeps.drew K.foot w2).trans (foot_rbb K k4));have K4:=h_ (K2.out.trans KG.out);clear t2 t16 r4 k4 c2 c16;have z0':w4.cell? ⟨g,k,none⟩=some (.int .i64 l0):=KG.out.cell z0 NG.out;have z1':w4.cell? ⟨g,k+1,none⟩=some (.int .i64 l1):=KG.out.cell z1 NG.out;have z2':w4.cell? ⟨g,k+2,none⟩=some (.int .i64 l2):=KG.out.cell z2 NG.out;have z3':w4.cell? ⟨g,k+3,none⟩=some (.int .i64 l3):=KG.out.cell z3 NG.out;clear z0 z1 z2 z3 KG;have HT:=h_ (R4.out.set3 l0 l1 l hb.1 hb.2);have J1:=h_ ((keeps_set1 w4 K.mb 5 (.int .i64 l0)).trans (Keeps.drew _ _));have J2:=h_ (((keeps_set1 w4 K.mb 5 (.int .i64 l0)).trans (keeps_set1 _ K.mb 6 (.int .i64 l1))).trans (Keeps.drew _ _));have J3:=h_ ((keeps_set3 w4 K.mb (.int .i64 l0) (.int .i64 l1) (.int .i64 l)).trans (Keeps.drew _ _));have c5:=R4.out.m5;have c6:=R4.out.m6;have c16:=R4.out.m16;have f5:=R4.out.free 5;have f6:=R4.out.free 6;have f16:=R4.out.free 16;have NGM:=h_ (show g≠K.mb from fun e=>NG.out (.inl e))
       have q10:(w4.setCell ⟨K.mb,5,none⟩ (.int .i64 l0)).drew.cell? ⟨g,k,none⟩=some (.int .i64 l0):=J1.out.cell z0' NGM.out;have q11:(w4.setCell ⟨K.mb,5,none⟩ (.int .i64 l0)).drew.cell? ⟨g,k+1,none⟩=some (.int .i64 l1):=J1.out.cell z1' NGM.out;have q13:(w4.setCell ⟨K.mb,5,none⟩ (.int .i64 l0)).drew.cell? ⟨g,k+3,none⟩=some (.int .i64 l3):=J1.out.cell z3' NGM.out;have q20:((w4.setCell ⟨K.mb,5,none⟩ (.int .i64 l0)).setCell ⟨K.mb,6,none⟩ (.int .i64 l1)).drew.cell? ⟨g,k,none⟩=some (.int .i64 l0):=J2.out.cell z0' NGM.out;have q21:((w4.setCell ⟨K.mb,5,none⟩ (.int .i64 l0)).setCell ⟨K.mb,6,none⟩ (.int .i64 l1)).drew.cell? ⟨g,k+1,none⟩=some (.int .i64 l1):=J2.out.cell z1' NGM.out;have q23:((w4.setCell ⟨K.mb,5,none⟩ (.int .i64 l0)).setCell ⟨K.mb,6,none⟩ (.int .i64 l1)).drew.cell? ⟨g,k+3,none⟩=some (.int .i64 l3):=J2.out.cell z3' NGM.out;have q30:(((w4.setCell ⟨K.mb,5,none⟩ (.int .i64 l0)).setCell ⟨K.mb,6,none⟩ (.int .i64 l1)).setCell ⟨K.mb,16,none⟩ (.int .i64 l)).drew.cell? ⟨g,k,none⟩=some (.int .i64 l0):=J3.out.cell z0' NGM.out;have q31:(((w4.setCell ⟨K.mb,5,none⟩ (.int .i64 l0)).setCell ⟨K.mb,6,none⟩ (.int .i64 l1)).setCell ⟨K.mb,16,none⟩ (.int .i64 l)).drew.cell? ⟨g,k+1,none⟩=some (.int .i64 l1):=J3.out.cell z1' NGM.out;have q33:(((w4.setCell ⟨K.mb,5,none⟩ (.int .i64 l0)).setCell ⟨K.mb,6,none⟩ (.int .i64 l1)).setCell ⟨K.mb,16,none⟩ (.int .i64 l)).drew.cell? ⟨g,k+3,none⟩=some (.int .i64 l3):=J3.out.cell z3' NGM.out;go_wp2_with fail
       go_region_held3 (fun w'=>w'.cell? ⟨g,k,none⟩=some (.int .i64 l0)∧w'.cell? ⟨g,k+1,none⟩=some (.int .i64 l1)∧w'.cell? ⟨g,k+3,none⟩=some (.int .i64 l3))
        (first | go_keep)
        (first | (go_at_call 352;refine (HH.out _).mono ?_;rintro e w9 ⟨rfl,rfl⟩;dsimp only))
       have R5:=h_ (HT.out.keeps0 (Keeps.drew _ _));have K5:=h_ (K4.out.trans (foot_mb K J3.out));have zz:=J3.out.cell z2' NGM.out;clear q10 q11 q13 q20 q21 q23 q30 q31 q33 z0' z1' z2' z3' c5 c6 c16 f5 f6 f16 HT J1 J2 J3;generalize (((w4.setCell ⟨K.mb,5,none⟩ (.int .i64 l0)).setCell ⟨K.mb,6,none⟩ (.int .i64 l1)).setCell ⟨K.mb,16,none⟩ (.int .i64 l)).drew=w5 at R5 K5 zz ⊢
       skip
       have c1:=R5.out.m1;go_wp2_with fail
       go_region_held3 (fun w'=>w'.cell? ⟨K.mb,1,none⟩=some (.pointer (some ⟨K.db,0,none⟩))∧w'.cell? ⟨g,k+2,none⟩=some (.int .i64 l2))
        (first | go_keep | exact ⟨t1,tz⟩)
        (first | (go_at_call 53;refine (HD3.out w5.drew (R5.out.keeps0 (Keeps.drew _ _))).mono ?_;rintro e w6 ⟨rfl,r6,k6⟩;dsimp only;have t1:=k6.cell c1 HND.out;have tz:=k6.cell zz (HFD.out g NG.out)))
       have R6:Hid (RFv w6 K v4):=h_ r6;have K6:=h_ ((K5.out.trans (Keeps.drew K.foot w5)).trans (foot_dbb K k6));clear t1 tz r6 k6 c1 zz;go_wp2_with fail;go_ret
       exact ⟨rfl,R6.out,K6.out⟩
end
section
variable (K:Bk) (w:World) (v:VM)
theorem fv_outcome (e:Int) (h:RFv w K v):Calls Tryz.prog 420 #[.pointer (some ⟨K.mb,0,none⟩),.int .i64 e] w (PV K w (VM.outcome (v,e))):=by
 by_cases h1:e=0
 · subst h1
   have hq:VM.outcome (v,0)=(v,0):=rfl;rw [hq];have R0:=h_ h;have K0:=h_ (Keeps.refl K.foot w);clear h hq
   go_enter Tryz.func420,Tryz.ntmps420
   go_wp2_with fail;go_ret
   exact ⟨rfl,R0.out,K0.out⟩
 · have hq:VM.outcome (v,e)=((v.throw e).1,if (v.throw e).2 then 0 else e):=by unfold VM.outcome;rw [if_neg h1]
   rw [hq];have HP:=h_ (fv_throw K w v e h);generalize v.throw e=q at HP ⊢;obtain ⟨v1,t⟩:=q;have d1:(e == 0)=false:=by simp [h1]
   have R0:=h_ h;have K0:=h_ (Keeps.refl K.foot w);clear h hq h1
   cases t with
   | true =>
    simp only [if_true]
    go_enter Tryz.func420,Tryz.ntmps420
    go_wp2_with fail;refine (HP.out).mono ?_;rintro e w1 ⟨rfl,r1,k1⟩;have R1:=h_ r1;have K1:=h_ (K0.out.trans k1);clear r1 k1
    skip
    go_wp2_with fail;go_ret
    exact ⟨rfl,R1.out,K1.out⟩
   | false =>
    simp only [Bool.false_eq_true,if_false]
    go_enter Tryz.func420,Tryz.ntmps420
    go_wp2_with fail;refine (HP.out).mono ?_;rintro e w1 ⟨rfl,r1,k1⟩;have R1:=h_ r1;have K1:=h_ (K0.out.trans k1);clear r1 k1
    skip
    go_wp2_with fail;go_ret
    exact ⟨rfl,R1.out,K1.out⟩
theorem fv_step (xt:Int) (h:RFv w K v) (hx:Sixty xt):Calls Tryz.prog 378 #[.pointer (some ⟨K.mb,0,none⟩),.int .i64 xt] w (PV K w (v.step xt)):=by
 have c10:=h.m10;have f10:=h.free 10;have hf0:=h.ok.fuel0;have hf1:=h.ok.fuel1;by_cases hc:v.fuel≤0
 · have hq:v.step xt=(v,-2053):=by unfold VM.step;rw [if_pos hc]
   rw [hq];have d1:decide (v.fuel≤0)=true:=decide_eq_true hc;have R0:=h_ h;have K0:=h_ (Keeps.refl K.foot w);clear h hq hc hx
   go_enter Tryz.func378,Tryz.ntmps378
   go_wp2_with fail;go_ret
   exact ⟨rfl,R0.out,K0.out⟩
 · have hq:v.step xt=VM.outcome (VM.enter { v with fuel:=v.fuel-1 } xt):=by unfold VM.step;rw [if_neg hc]
   rw [hq];have d1:decide (v.fuel≤0)=false:=decide_eq_false hc;have R0:=h_ h;have K0:=h_ (Keeps.refl K.foot w);have R1:=h_ (h.setFuel (v.fuel-1) (by omega) (by omega))
   have K1:=h_ (foot_mb K (keeps_set1 w K.mb 10 (.int .i64 (v.fuel-1))));have HP:=h_ (fv_enter K _ _ xt R1.out hx);generalize VM.enter { v with fuel:=v.fuel-1 } xt=q at HP ⊢;obtain ⟨v1,e1⟩:=q;have HO:=h_ fun V (hV:RFv V K v1)=>fv_outcome K V v1 e1 hV
   generalize VM.outcome (v1,e1)=q at HO ⊢;clear h hq hx;have hc':0<v.fuel:=by omega
   clear hc
   go_enter Tryz.func378,Tryz.ntmps378
   go_wp2_with fail;refine (HP.out).mono ?_;rintro e w2 ⟨rfl,r2,k2⟩;have R2:=h_ r2;have K2:=h_ (K1.out.trans k2);clear r2 k2
   try clear c10
   go_wp2_with fail;refine (HO.out w2 R2.out).mono ?_;rintro e w3 ⟨rfl,r3,k3⟩;have R3:=h_ r3;have K3:=h_ (K2.out.trans k3);clear r3 k3
   try clear c10
   go_wp2_with fail;go_ret
   exact ⟨rfl,R3.out,K3.out⟩
theorem fv_astray (e:Int) (h:RFv w K v):Calls Tryz.prog 379 #[.pointer (some ⟨K.mb,0,none⟩),.int .i64 e] w (PV K w (v.astray e)):=by
 have c10:=h.m10;have f10:=h.free 10;have hf0:=h.ok.fuel0;have hf1:=h.ok.fuel1;by_cases hc:v.fuel≤0
 · have hq:v.astray e=(v,-2053):=by unfold VM.astray;rw [if_pos hc]
   rw [hq];have d1:decide (v.fuel≤0)=true:=decide_eq_true hc;have R0:=h_ h;have K0:=h_ (Keeps.refl K.foot w);clear h hq hc
   go_enter Tryz.func379,Tryz.ntmps379
   go_wp2_with fail;go_ret
   exact ⟨rfl,R0.out,K0.out⟩
 · have hq:v.astray e=VM.outcome ({ v with fuel:=v.fuel-1 },e):=by unfold VM.astray;rw [if_neg hc]
   rw [hq];have d1:decide (v.fuel≤0)=false:=decide_eq_false hc;have R0:=h_ h;have K0:=h_ (Keeps.refl K.foot w);have R1:=h_ (h.setFuel (v.fuel-1) (by omega) (by omega))
   have K1:=h_ (foot_mb K (keeps_set1 w K.mb 10 (.int .i64 (v.fuel-1))));have HO:=h_ (fv_outcome K _ _ e R1.out);generalize VM.outcome ({ v with fuel:=v.fuel-1 },e)=q at HO ⊢;clear h hq;have hc':0<v.fuel:=by omega
   clear hc
   go_enter Tryz.func379,Tryz.ntmps379
   go_wp2_with fail;refine (HO.out).mono ?_;rintro e w2 ⟨rfl,r2,k2⟩;have R2:=h_ r2;have K2:=h_ (K1.out.trans k2);clear r2 k2
   try clear c10
   go_wp2_with fail;go_ret
   exact ⟨rfl,R2.out,K2.out⟩
end
theorem VM.run_eq (v:VM) (xt:Int):v.run xt=VM.runN ((VM.step { v with ip:=0,self:=0,handler:=0 } xt).1.fuel.toNat+2) (VM.step { v with ip:=0,self:=0,handler:=0 } xt):=rfl
theorem VM.runN_stop (k:Nat) (q:VM × Int) (h:¬ (q.2=0∧q.1.ip≠0∧q.1.over=false)):VM.runN k q=q:=by
 cases k with
 | zero=>rfl
 | succ k=>unfold VM.runN;rw [if_neg h]
def meas (e:Int) (f:Int):Nat:=2*f.toNat+(if e=0 then 1 else 0)
theorem meas_lt (q:VM):meas q.round.2 q.round.1.fuel<meas 0 q.fuel:=by
 unfold meas;rw [VM.round_fuel];by_cases h:q.fuel≤0
 · rw [if_pos h,VM.round_dry q h,if_neg (by decide),if_pos rfl];omega
 · rw [if_neg h,if_pos rfl]
   split <;> omega
section
variable (K:Bk) (w:World) (v:VM)
theorem fv_run (xt:Int) (h:RFv w K v) (hx:Sixty xt):Calls Tryz.prog 250 #[.pointer (some ⟨K.mb,0,none⟩),.int .i64 xt] w (PV K w (v.run xt)):=by
 have hs:=VM.run_eq v xt;generalize v.run xt=Q at hs ⊢;have R1:=h_ (h.set3 0 0 0 (by omega) (by omega))
 have K1:=h_ (foot_mb K (keeps_set3 w K.mb (.int .i64 0) (.int .i64 0) (.int .i64 0)));have c5:=h.m5;have c6:=h.m6;have c16:=h.m16;have f5:=h.free 5;have f6:=h.free 6;have f16:=h.free 16;have HP:=h_ (fv_step K _ _ xt R1.out hx);generalize VM.step { v with ip:=0,self:=0,handler:=0 } xt=q at hs HP;obtain ⟨v1,e1⟩:=q;have HS:=h_ hs;have R0:=h_ h;have K0:=h_ (Keeps.refl K.foot w);clear h hs hx
 go_enter Tryz.func250,Tryz.ntmps250
 go_wp2_with fail;refine (HP.out).mono ?_;rintro e w2 ⟨rfl,r2,k2⟩;have R2:=h_ r2;have K2:=h_ (K1.out.trans k2);clear r2 k2
 try clear c5;try clear c6;try clear c16
 go_wp2_with fail
 go_loopw [5,6] (fun ev _ wr=>∃ (q:VM × Int) (k:Nat),ev=.int .i64 q.2∧RFv wr K q.1∧Keeps K.foot w wr∧VM.runN k q=Q∧q.1.fuel.toNat+(if q.2=0 then 2 else 1)≤k)
  (fun ev _ wr=>match wr.cell? ⟨K.mb,10,none⟩ with | some (.int _ n)=>meas (intOf ev) n | _=>0)
 case atStart=>exact ⟨(v1,e1),v1.fuel.toNat+2,rfl,R2.out,K2.out,HS.out.symm,by show v1.fuel.toNat+_≤v1.fuel.toNat+2;split <;> omega⟩
 case round =>
  obtain ⟨⟨u,e⟩,k,rfl,hr,hk,hq,hle⟩:=hrel;simp only at hr hq hle
  have R3:=h_ hr;have K3:=h_ hk;have c5:=hr.m5;have c13:=hr.m13;have c10:=h_ hr.m10;have HQ:=h_ hq;clear hr hk hq;by_cases h1:e=0
  · subst h1
    by_cases h2:u.ip=0
    · have d2:(u.ip != 0)=false:=by simp [h2]
      have HF:VM.runN k (u,0)=(u,0):=VM.runN_stop k _ (fun e=>e.2.1 h2)
      have HQ2:=h_ (HF.symm.trans HQ.out);clear hle HF HQ h2;go_wp2_with fail;go_ret
      rw [← HQ2.out];exact ⟨rfl,R3.out,K3.out⟩
    · have d2:(u.ip != 0)=true:=by simp [h2]
      cases ho:u.over with
      | true =>
       rw [ho] at c13;have HF:VM.runN k (u,0)=(u,0):=VM.runN_stop k _ (fun e=>by have:=e.2.2;simp only at this;rw [ho] at this;cases this)
       have HQ2:=h_ (HF.symm.trans HQ.out);clear hle HF HQ h2 ho;go_wp2_with fail;go_ret
       rw [← HQ2.out];exact ⟨rfl,R3.out,K3.out⟩
      | false =>
       rw [ho] at c13;rw [if_pos rfl] at hle;obtain ⟨j,rfl⟩:∃ j,k=j+1:=⟨k-1,by omega⟩
       have HF:VM.runN (j+1) (u,0)=VM.runN j u.round:=by
        show (if _ then _ else _)=_
        rw [if_pos ⟨rfl,h2,ho⟩]
       have HQ2:=h_ (HF.symm.trans HQ.out);have HM:=h_ (meas_lt u)
       have hfl:u.round.1.fuel.toNat+(if u.round.2=0 then 2 else 1)≤j:=by
        rw [VM.round_fuel];by_cases hf:u.fuel≤0
        · rw [if_pos hf,VM.round_dry u hf,if_neg (by decide)];omega
        · rw [if_neg hf];split <;> omega
       have HFL:=h_ hfl;have hrd:u.round=if u.inline.2.2=0 then u.inline.1.step u.inline.2.1 else u.inline.1.astray u.inline.2.2:=rfl
       generalize u.round=q at hrd HQ2 HM HFL;have HI:=h_ (fv_inline K _ u R3.out);have hib:=u.inline_bd;generalize u.inline=p at hrd HI hib;obtain ⟨u1,xt1,e4⟩:=p;simp only at hrd hib
       clear hle HF HQ h2 ho hfl;by_cases h4:e4=0
       · subst h4
         rw [if_pos rfl] at hrd;have HST:=h_ fun V (hV:RFv V K u1)=>fv_step K V u1 xt1 hV hib
         generalize u1.step xt1=r at hrd HST;subst hrd;clear hib;go_wp2_with fail;refine (HI.out).mono ?_;rintro e w4 ⟨rfl,r4,k4⟩;have R4:=h_ r4;have K4:=h_ (K3.out.trans k4);clear r4 k4
         try clear c5;try clear c6;try clear c10;try clear c13;try clear c16
         go_wp2_with fail;refine (HST.out _ R4.out).mono ?_;rintro e w5 ⟨rfl,r5,k5⟩;have R5:=h_ r5;have K5:=h_ (K4.out.trans k5);clear r5 k5
         try clear c5;try clear c6;try clear c10;try clear c13;try clear c16
         go_wp2_with fail
         go_roundw
         case rel=>exact ⟨q,j,rfl,R5.out,K5.out,HQ2.out,HFL.out⟩
         case measure =>
          have c10':=R5.out.m10;simp only [c10.out,c10',intOf]
          exact HM.out
       · have d4:(e4 == 0)=false:=by simp [h4]
         rw [if_neg h4] at hrd;have HST:=h_ fun V (hV:RFv V K u1)=>fv_astray K V u1 e4 hV
         generalize u1.astray e4=r at hrd HST;subst hrd;clear hib h4;go_wp2_with fail;refine (HI.out).mono ?_;rintro e w4 ⟨rfl,r4,k4⟩;have R4:=h_ r4;have K4:=h_ (K3.out.trans k4);clear r4 k4
         try clear c5;try clear c6;try clear c10;try clear c13;try clear c16
         go_wp2_with fail;refine (HST.out _ R4.out).mono ?_;rintro e w5 ⟨rfl,r5,k5⟩;have R5:=h_ r5;have K5:=h_ (K4.out.trans k5);clear r5 k5
         try clear c5;try clear c6;try clear c10;try clear c13;try clear c16
         go_wp2_with fail
         go_roundw
         case rel=>exact ⟨q,j,rfl,R5.out,K5.out,HQ2.out,HFL.out⟩
         case measure =>
          have c10':=R5.out.m10;simp only [c10.out,c10',intOf]
          exact HM.out
  · have d1:(e == 0)=false:=by simp [h1]
    have HF:VM.runN k (u,e)=(u,e):=VM.runN_stop k _ (fun h=>h1 h.1)
    have HQ2:=h_ (HF.symm.trans HQ.out);clear hle HF HQ h1;go_wp2_with fail;go_ret
    rw [← HQ2.out];exact ⟨rfl,R3.out,K3.out⟩
end
end Go.Proofs.Shed
