/- Of CallsG: WCalI. No condition. -/
import Derived.Test.YthhfkhhhclmimaaGreatDoorM52
set_option linter.unusedVariables false
set_option linter.unusedSimpArgs false
set_option maxRecDepth 10000
set_option maxHeartbeats 4000000
namespace Go.Proofs.Shed
open Go Go.RowKit Go.Proofs.K Go.Proofs.Cod
theorem rbz_pf (l:List Int) (f:Int):(C17.rbz l f).pf=(C17.rz l).pf:=rfl
theorem xt_pf {r r':Rd} (h:r.pf=r'.pf) (s:List UInt8):r.xt s=r'.xt s:=by unfold Rd.xt;rw [h]
theorem calls17 (w:World) (hg:Glo w) (a:Option Addr) (c:Nat) (l:List Int) (hl:ArgI w a l) (h64:∀ n ∈ l,C17.in64 n) (hlen:l.length≤4611686018427387904) (nm:List UInt8) (hnm:nm.length≤4611686018427387904) (fails:Bool) :
 Calls Tryz.prog 5 #[.slice a l.length c,.string ⟨nm.toArray⟩,.bool fails] w fun e w'=>e=.returned (.bool true)∧Keeps (fun _=>False) w w':=by
 have hmm:=@run_makeMap Tryz.prog;have hmf:=hmf3;have HTW:=h_ (two17 w hg);have HLV:=h_ fun V (k:Keeps (fun _=>False) w V)=>lives17 V (hg.keeps0 k)
 have H4:=h_ hg.lt;have HA:=h_ hl
 have HAB:=h_ (show l≠[]→∀ g,blk a=some g→g<w.heap.size from fun hne g hg=>by
  obtain ⟨g',o,rfl,hc⟩:=hl 0 (List.length_pos_iff.2 hne);have e:g'=g:=Option.some.inj hg;rw [← e]
  exact World.block_lt_of_cell? _ _ hc)
 have H64:=h_ h64;clear hg hl h64
 go_enter Tryz.func5,Tryz.ntmps5
 go_wp2_with fail;refine HTW.out.mono ?_;rintro e w1 ⟨K,ob,pm,np,mm,ZA,K2,ob2,pm2,np2,mm2,ZB,rfl,ja,jb,za,zb,zd,k1,hpm⟩;have JA:=h_ ja;have JB:=h_ jb;have HZ:=h_ (And.intro za (And.intro zb zd));have K1:=h_ k1;have HPM:=h_ hpm;clear ja jb za zb zd k1 hpm HTW;go_wp2_with fail;refine (HLV.out w1 K1.out).mono ?_;rintro e w2 ⟨rfl,k2⟩;have KL:=h_ k2;have K2':=h_ (K1.out.trans k2);clear k2;by_cases h40:(40:Int)<(l.length:Int)
 · go_wp2_with fail
   refine (HLV.out w2 K2'.out).mono ?_;rintro e w3 ⟨rfl,k3⟩;have K3:=h_ (K2'.out.trans k3);clear k3;go_wp2_with fail;go_ret
   exact ⟨rfl,K3.out⟩
 · have DK:=h_ (MoreP.start w2)
   go_wp2_with (first
    | (refine wpList_moreP (w0:=w2) _ rfl _ _ _ rfl _ _ rfl DK.out (by decide) [109,111,114,101] (by decide) (fnV 24) rfl rfl ?_;intro w3 dk;replace DK:=h_ dk;clear dk))
   obtain ⟨dm,dd,dk⟩:=DK.out;have hs12:=KL.out.size;have hlz:∀ g,ZA g→g<w2.heap.size:=fun g hg=>Nat.lt_of_lt_of_le (JA.out.lt g hg) hs12
   have HEX:=h_ (rj_extend w3 K ob pm np mm ZA (rd0 vmC) (w2.heap.size+1) w2.heap.size HPM.out (JA.out.keeps0 (ext0_ok K ob pm np mm) (KL.out.trans dk)) dm (fun h=>by have:=hlz _ h;omega) dd (fun h=>by have:=hlz _ h;omega) (by have:=H4.out;have:=K2'.out.size;omega))
   have JB3:=h_ (JB.out.keeps0 (ext0_ok K2 ob2 pm2 np2 mm2) (KL.out.trans dk));have K3:=h_ (K2'.out.trans dk);have HS2:=h_ (show w.heap.size≤w2.heap.size from K2'.out.size)
   have HB1:=h_ (show ∀ g,ZB g→g<w2.heap.size from fun g hg=>Nat.lt_of_lt_of_le (JB.out.lt g hg) hs12)
   clear dm dd dk hs12 hlz DK JA JB KL K1 K2';obtain ⟨gd,hgd⟩:∃ gd,gd=w2.heap.size:=⟨_,rfl⟩;rw [← hgd] at HEX HS2 HB1 ⊢;unfold doneV at HEX;refine HEX.out.mono ?_;rintro e w4 ⟨rfl,nx,j4,k4⟩
   have B4:=h_ (show Both (Gk1 K ob pm np mm nx gd) (Gk0 K2 ob2 pm2 np2 mm2) gd w w4 (fun g=>ZA g∨g=gd) ZB (rd0 vmC) 0 (rd0 vmC) from
    ⟨⟨j4,JB3.out.apart (ext0_ok K2 ob2 pm2 np2 mm2) k4 (fun g hb ha=>HZ.out.2.2 g ha hb) j4.gl.1,fun g ha hb=>ha.elim (fun ha=>HZ.out.2.2 g ha hb) (fun e=>by have:=HB1.out g hb;omega)⟩,
     fun g hg=>hg.elim (HZ.out.1 g) (fun e=>by have:=HS2.out;omega),HZ.out.2.1,K3.out.trans' k4 (fun i hi hz=>by have:=HZ.out.1 i hz;omega)⟩)
   have a0:w4.cell? ⟨ob,0,none⟩=some (.pointer (some ⟨K.mb,0,none⟩)):=B4.out.duo.a.rd.elim fun X h=>h.o0
   have b0:w4.cell? ⟨ob2,0,none⟩=some (.pointer (some ⟨K2.mb,0,none⟩)):=B4.out.duo.b.rd.elim fun X h=>h.o0
   have a10:w4.cell? ⟨K.mb,10,none⟩=some (.int .i64 0):=B4.out.duo.a.rd.elim fun X h=>h.v10
   have b10:w4.cell? ⟨K2.mb,10,none⟩=some (.int .i64 0):=B4.out.duo.b.rd.elim fun X h=>h.v10
   have fa:w4.frozen? ⟨K.mb,10,none⟩=false:=B4.out.duo.a.rd.elim fun X h=>h.fv.free 10
   have fb:w4.frozen? ⟨K2.mb,10,none⟩=false:=B4.out.duo.b.rd.elim fun X h=>h.fv.free 10
   clear j4 k4 HEX JB3 K3 HS2 HB1 HZ HPM hgd;generalize (fun g=>ZA g∨g=gd)=YA at B4
   go_wp2_with fail;have n1:¬ K.mb=K2.mb:=fun e=>B4.out.duo.d K.mb B4.out.duo.a.mbz (by rw [e];exact B4.out.duo.b.mbz)
   have n2:¬ K2.mb=K.mb:=fun e=>n1 e.symm
   go_region
   have r500:({ (rd0 vmC) with v:={ (rd0 vmC).v with fuel:=500 } }:Rd)=C17.r0:=rfl;obtain ⟨YB,ja5,ea5⟩:=rj_fuel (ext1_ok K ob pm np mm nx gd) w4 YA (rd0 vmC,0) 500 (by decide) (by decide) B4.out.duo.a
   have B5a:=B4.out.stepA ja5 ea5;obtain ⟨YC,jb5,eb5⟩:=rj_fuel (ext0_ok K2 ob2 pm2 np2 mm2) _ ZB (rd0 vmC,()) 500 (by decide) (by decide) B5a.duo.b
   have B5c:=(B5a.stepB jb5 eb5).keeps0 (kd_ _);have B5b:Both (Gk1 K ob pm np mm nx gd) (Gk0 K2 ob2 pm2 np2 mm2) gd w (((w4.setCell ⟨K.mb,10,none⟩ (.int .i64 500)).setCell ⟨K2.mb,10,none⟩ (.int .i64 500))).drew YB YC C17.r0 0 C17.r0:=B5c;have B5:=h_ B5b;clear B4 B5a B5b B5c ja5 ea5 jb5 eb5 r500 a0 b0 a10 b10 fa fb n1 n2;generalize ((w4.setCell ⟨K.mb,10,none⟩ (.int .i64 500)).setCell ⟨K2.mb,10,none⟩ (.int .i64 500)).drew=w5 at B5 ⊢;go_wp2_with fail;refine (B5.out.duo.a.pru (ext1_ok K ob pm np mm nx gd) (fun X h _=>rd_keep _ X w5 _ h)).mono ?_
   rintro e w6 ⟨rfl,Z6,j6,e6⟩;have B6:=h_ (show Both (Gk1 K ob pm np mm nx gd) (Gk0 K2 ob2 pm2 np2 mm2) gd w w6 Z6 YC C17.rk 0 C17.r0 from B5.out.stepA j6 e6)
   have a0:w6.cell? ⟨ob,0,none⟩=some (.pointer (some ⟨K.mb,0,none⟩)):=B6.out.duo.a.rd.elim fun X h=>h.o0
   have a8:w6.cell? ⟨K.mb,8,none⟩=some (.int .i64 24):=B6.out.duo.a.rd.elim fun X h=>h.v8
   clear j6 e6 B5;go_wp2_with fail;refine (B6.out.duo.a.prv (V:=Wd.val) (F:=C17.rk.make 24 [119] 1001 2 []) (ext1_ok K ob pm np mm nx gd) (fun X h _=>rd_make _ X w6 _ 24 [119] 1001 2 none 0 [] (by decide) (by decide) (fun i hi=>by simp at hi) (by decide) (fun g hg=>by cases hg) h)).mono ?_
   rintro e w7 ⟨rfl,Z7,j7,e7⟩;rw [C17.make_is] at j7 ⊢;have B7:=B6.out.stepA j7 e7;have ka:=ka_ w7 (.cells #[.int .i64 2832,.int .i64 2856,.int .i64 2,.string ⟨#[119]⟩] 53);have S8:=h_ (show Aside (w7.alloc (.cells #[.int .i64 2832,.int .i64 2856,.int .i64 2,.string ⟨#[119]⟩] 53)) Z7 YC w7.heap.size _ from ⟨fun h=>by have:=B7.duo.a.lt _ h;omega,fun h=>by have:=B7.duo.b.lt _ h;omega,halloc_at w7 _⟩)
   have B8:=h_ (B7.keeps0 ka);clear j7 e7 B7 ka B6 a0 a8;dsimp only [Wd.val,C17.w1];go_wp2_with fail;obtain ⟨gw,hgw⟩:∃ gw,gw=w7.heap.size:=⟨_,rfl⟩;rw [← hgw] at S8 ⊢;generalize w7.alloc (.cells #[.int .i64 2832,.int .i64 2856,.int .i64 2,.string ⟨#[119]⟩] 53)=w8 at S8 B8 ⊢;clear hgw;refine (B8.out.duo.a.pru (ext1_ok K ob pm np mm nx gd) (fun X h _=>rd_start _ X w8 _ false h)).mono ?_
   rintro e w9 ⟨rfl,Z9,j9,e9⟩;have S9:=h_ (S8.out.stepA e9);have B9:=h_ (show Both (Gk1 K ob pm np mm nx gd) (Gk0 K2 ob2 pm2 np2 mm2) gd w w9 Z9 YC (C17.ra []) 0 C17.r0 from B8.out.stepA j9 e9)
   clear j9 e9 S8 B8;have hl40:l.length≤40:=by omega
   have HAL:=h_ (HA.out.keeps B9.out.k (fun _ _=>id))
   go_wp2_with fail;refine (B9.out.duo.a.pr (ext1_ok K ob pm np mm nx gd) (F:=(C17.ra []).literal l) (fun X h hX=>rd_literal_c _ X w9 _ a c l HAL.out (by omega) (fun hne g hg hx=>?_) rfl h)).mono ?_
   · have:=B9.out.za g (hX g hx)
     have:=HAB.out hne g hg;omega
   rintro e w10 ⟨rfl,Z10,j10,e10⟩;rw [C17.lit_is l hl40] at j10 ⊢;have S10:=h_ (S9.out.stepA e10);have B10:=h_ (show Both (Gk1 K ob pm np mm nx gd) (Gk0 K2 ob2 pm2 np2 mm2) gd w w10 Z10 YC (C17.ra (C17.nums l)) 0 C17.r0 from B9.out.stepA j10 e10)
   clear j10 e10 S9 B9 HAL;dsimp only;go_wp2_with fail;refine (B10.out.duo.a.pr (ext1_ok K ob pm np mm nx gd) (F:=(C17.ra (C17.nums l)).compile [43] [5]) (fun X h hX=>rd_compile1 _ X w10 _ [43] 5 (by decide) h)).mono ?_
   rintro e w11 ⟨rfl,Z11,j11,e11⟩;rw [C17.plus_is l hl40] at j11 ⊢;have S11:=h_ (S10.out.stepA e11);have B11:=h_ (show Both (Gk1 K ob pm np mm nx gd) (Gk0 K2 ob2 pm2 np2 mm2) gd w w11 Z11 YC (C17.ra (C17.nums l++[C17.tok [43],5])) 0 C17.r0 from B10.out.stepA j11 e11)
   clear j11 e11 S10 B10;dsimp only
   cases fails with
   | true =>
    go_wp2_with fail;obtain ⟨rf,hrf,hhere,hout,hcomp⟩:=C17.fails_is (C17.nums l++[C17.tok [43],5]) 0;have HF:=rj_fail (ext1_ok K ob pm np mm nx gd) (reset1_ok K ob pm np mm nx gd) w11 Z11 (C17.ra (C17.nums l++[C17.tok [43],5]),0) (-10) (by unfold Sixty;omega) B11.out.duo.a
    rw [hrf,show wrap64 (0+1)=1 from IntWalk.wrap64_in _ (by omega)] at HF
    refine HF.mono ?_;rintro e w12 ⟨rfl,Z12,j12,e12⟩;have B12:=h_ (B11.out.stepA j12 e12);clear j12 e12 HF hrf B11 S11;have hst:rf.stop=(rf,-22):=by unfold Rd.stop;rw [if_pos (.inl hcomp)]
    have HALL:=h_ (show ∀ V Z',Both (Gk1 K ob pm np mm nx gd) (Gk0 K2 ob2 pm2 np2 mm2) gd w V Z' YC rf 1 C17.r0→V.cell? ⟨ob,0,none⟩=some (.pointer (some ⟨K.mb,0,none⟩))∧V.cell? ⟨ob,4,none⟩=some (.bool false)∧V.cell? ⟨K.mb,0,none⟩=some (.pointer (some ⟨K.s,0,none⟩))∧V.cell? ⟨K.mb,11,none⟩=some (.string ⟨#[63,45,49,48,10]⟩)∧V.cell? ⟨gd,0,none⟩=some (.int .i64 1)∧V.cell? ⟨ob2,0,none⟩=some (.pointer (some ⟨K2.mb,0,none⟩))∧V.cell? ⟨K2.mb,0,none⟩=some (.pointer (some ⟨K2.s,0,none⟩)) from by
     intro V Z' h;obtain ⟨q1,q2,q3,_,q5,_,q7,_⟩:=h.seesA;obtain ⟨p1,p2,_⟩:=h.seesB;rw [hcomp] at q2;rw [hout] at q5
     exact ⟨q1,q2,q3,q5,q7,p1,p2⟩)
    have HHA:=h_ fun V Z' (h:Both (Gk1 K ob pm np mm nx gd) (Gk0 K2 ob2 pm2 np2 mm2) gd w V Z' YC rf 1 C17.r0)=>(show Calls Tryz.prog 35 #[.pointer (some ⟨K.s,0,none⟩)] V fun e w'=>e=.returned (.int .i64 2832)∧V=w' from hhere ▸ sp_here V K.s K.b K.bb rf.v.x h.seesA.2.2.2.2.2.2.2.vm.sp)
    have HHB:=h_ fun V Z' (h:Both (Gk1 K ob pm np mm nx gd) (Gk0 K2 ob2 pm2 np2 mm2) gd w V Z' YC rf 1 C17.r0)=>(show Calls Tryz.prog 35 #[.pointer (some ⟨K2.s,0,none⟩)] V fun e w'=>e=.returned (.int .i64 2832)∧V=w' from C17.here0 ▸ sp_here V K2.s K2.b K2.bb C17.x0 h.seesB.2.2.vm.sp)
    have HST:=h_ fun V Z' (h:Both (Gk1 K ob pm np mm nx gd) (Gk0 K2 ob2 pm2 np2 mm2) gd w V Z' YC rf 1 C17.r0)=>(h.duo.a.pr (ext1_ok K ob pm np mm nx gd) (F:=(rf,-22)) (fun X h _=>hst ▸ rd_stop _ X V _ h))
    clear hst hcomp hout hhere;obtain ⟨a0,a4,am0,am11,g0,b0,bm0⟩:=HALL.out w12 Z12 B12.out;have BD:=B12.out.keeps0 (kd_ w12);go_wp2_with fail
    (try dsimp only [List.append])
    go_region_held3 (fun V=>V.cell? ⟨ob,0,none⟩=some (.pointer (some ⟨K.mb,0,none⟩))∧V.cell? ⟨ob,4,none⟩=some (.bool false)∧V.cell? ⟨K.mb,0,none⟩=some (.pointer (some ⟨K.s,0,none⟩))∧V.cell? ⟨K.mb,11,none⟩=some (.string ⟨#[63,45,49,48,10]⟩)∧V.cell? ⟨gd,0,none⟩=some (.int .i64 1)∧V.cell? ⟨ob2,0,none⟩=some (.pointer (some ⟨K2.mb,0,none⟩))∧V.cell? ⟨K2.mb,0,none⟩=some (.pointer (some ⟨K2.s,0,none⟩)))
     (first | exact HALL.out _ _ B13 | exact HALL.out _ _ BD | exact HALL.out _ _ B12.out)
     (first
       | (go_at_call 35;have kk:=mark1;refine (HHB.out _ _ BD).mono ?_;rintro e w0 ⟨rfl,rfl⟩;dsimp only)
       | (go_at_call 35;refine (HHA.out _ _ BD).mono ?_;rintro e w0 ⟨rfl,rfl⟩;dsimp only;have mark1:True:=trivial)
       | (go_at_call 36;refine (HST.out _ _ BD).mono ?_;rintro e w13 ⟨rfl,Z13,j13,e13⟩;dsimp only;have B13:=BD.stepA j13 e13))
    go_wp2_with fail;go_ret
    exact ⟨rfl,B13.k⟩
   | false =>
    go_wp2_with fail;refine (B11.out.duo.a.pr (ext1_ok K ob pm np mm nx gd) (F:=(C17.ra (C17.nums l++[C17.tok [43],5])).stop) (fun X h _=>rd_stop _ X w11 _ h)).mono ?_
    rintro e w12 ⟨rfl,Z12,j12,e12⟩;rw [C17.stop_is] at j12 ⊢;have S12:=h_ (S11.out.stepA e12);have B12:=h_ (show Both (Gk1 K ob pm np mm nx gd) (Gk0 K2 ob2 pm2 np2 mm2) gd w w12 Z12 YC (C17.rs (C17.nums l++[C17.tok [43],5])) 0 C17.r0 from B11.out.stepA j12 e12)
    clear j12 e12 S11 B11;dsimp only;go_wp2_with fail;refine (B12.out.duo.a.pr (ext1_ok K ob pm np mm nx gd) (F:=(C17.rs (C17.nums l++[C17.tok [43],5])).compile [101,120,105,116] []) (fun X h hX=>rd_compile0 _ X w12 _ [101,120,105,116] (by decide) h)).mono ?_
    rintro e w13 ⟨rfl,Z13,j13,e13⟩;rw [C17.exit_is l hl40] at j13 ⊢;have S13:=h_ (S12.out.stepA e13);have B13:=h_ (show Both (Gk1 K ob pm np mm nx gd) (Gk0 K2 ob2 pm2 np2 mm2) gd w w13 Z13 YC (C17.rs (C17.body l)) 0 C17.r0 from B12.out.stepA j13 e13)
    clear j13 e13 S12 B12;dsimp only
    have HALL:=h_ (show ∀ V Z' r,Both (Gk1 K ob pm np mm nx gd) (Gk0 K2 ob2 pm2 np2 mm2) gd w V Z' YC r 0 C17.r0→Aside V Z' YC gw (.cells #[.int .i64 2832,.int .i64 2856,.int .i64 2,.string ⟨#[119]⟩] 53)→V.cell? ⟨ob,0,none⟩=some (.pointer (some ⟨K.mb,0,none⟩))∧V.cell? ⟨K.mb,0,none⟩=some (.pointer (some ⟨K.s,0,none⟩))∧V.cell? ⟨K.s,0,none⟩=some (.pointer (some ⟨K.b,0,none⟩))∧V.cell? ⟨gw,0,none⟩=some (.int .i64 2832)∧V.cell? ⟨gw,1,none⟩=some (.int .i64 2856)∧V.cell? ⟨gw,2,none⟩=some (.int .i64 2)∧V.cell? ⟨gw,3,none⟩=some (.string ⟨#[119]⟩) from by
     intro V Z' r h hs;obtain ⟨q1,_,q3,_,_,q6,_,_⟩:=h.seesA
     exact ⟨q1,q3,q6,cell_of hs.h rfl,cell_of hs.h rfl,cell_of hs.h rfl,cell_of hs.h rfl⟩)
    have HMK:=h_ fun V Z' (h:Both (Gk1 K ob pm np mm nx gd) (Gk0 K2 ob2 pm2 np2 mm2) gd w V Z' YC (C17.rs (C17.body l)) 0 C17.r0)=>rj_mark (ext1_ok K ob pm np mm nx gd) V Z' (C17.rs (C17.body l),0) C17.w1 0 (by decide) (by decide) (by decide) (by decide) h.duo.a
    dsimp only [Wd.val,C17.w1] at HMK;obtain ⟨a0,am0,as0,s0,s1,s2,s3⟩:=HALL.out w13 Z13 _ B13.out S13.out;have BD:=B13.out.keeps0 (kd_ w13);have SD:=S13.out.keeps0 (kd_ w13);go_wp2_with fail
    (try dsimp only [List.append])
    go_region_held3 (fun V=>V.cell? ⟨ob,0,none⟩=some (.pointer (some ⟨K.mb,0,none⟩))∧V.cell? ⟨K.mb,0,none⟩=some (.pointer (some ⟨K.s,0,none⟩))∧V.cell? ⟨K.s,0,none⟩=some (.pointer (some ⟨K.b,0,none⟩))∧V.cell? ⟨gw,0,none⟩=some (.int .i64 2832)∧V.cell? ⟨gw,1,none⟩=some (.int .i64 2856)∧V.cell? ⟨gw,2,none⟩=some (.int .i64 2)∧V.cell? ⟨gw,3,none⟩=some (.string ⟨#[119]⟩))
     (first | exact HALL.out _ _ _ B14 S14 | exact HALL.out _ _ _ BD SD | exact HALL.out _ _ _ B13.out S13.out)
     (first | (go_at_call 37;refine (HMK.out _ _ BD).mono ?_;rintro e w14 ⟨rfl,Z14,j14,e14⟩;dsimp only;have B14:=BD.stepA j14 e14;have S14:=SD.stepA e14))
    have B14:=h_ B14;clear j14 e14 BD SD HMK HALL S13 B13 a0 am0 as0 s0 s1 s2 s3 S14;go_wp2_with fail;refine (B14.out.duo.a.pru (ext1_ok K ob pm np mm nx gd) (fun X h _=>rd_kept _ X w14 _ h)).mono ?_
    rintro e w15 ⟨rfl,Z15,j15,e15⟩;have B15:=h_ (show Both (Gk1 K ob pm np mm nx gd) (Gk0 K2 ob2 pm2 np2 mm2) gd w w15 Z15 YC (C17.rz l) 0 C17.r0 from B14.out.stepA j15 e15)
    clear j15 e15 B14;dsimp only;go_wp2_with fail
    go_loopw [17,165] (fun tv iv wr=>∃ i:Nat,iv=.int .i64 i∧i≤l.length∧tv=.string ⟨(58 :: 32 :: 119 :: C17.tail (l.take i)).toArray⟩∧Keeps (fun _=>False) w15 wr) (fun _ iv _=>l.length-(intOf iv).toNat)
    case atStart=>exact ⟨0,rfl,Nat.zero_le _,rfl,Keeps.refl _ _⟩
    case round =>
     obtain ⟨i,rfl,hi,rfl,hk⟩:=hrel;have HK:=h_ hk;clear hk;have hPl:=C17.text_len l i;by_cases hlt:i<l.length
     · obtain ⟨ag,ao,rfl,y0⟩:=(HA.out.keeps (B15.out.k.trans HK.out) (fun _ _=>id)) i hlt
       have HN:=h_ fun V=>num_show_all V l[i] 10 (H64.out _ (List.getElem_mem hlt)).1 (H64.out _ (List.getElem_mem hlt)).2
       have hTl:=show_len l[i] 10;have hst:=h_ (show 58 :: 32 :: 119 :: C17.tail (l.take (i+1))=(58 :: 32 :: 119 :: C17.tail (l.take i))++(32 :: Num.show_ l[i] 10) from by rw [C17.tail_step l i hlt];rfl)
       generalize 58 :: 32 :: 119 :: C17.tail (l.take i)=P at hPl hst ⊢;generalize Num.show_ l[i] 10=T at HN hTl hst;generalize l[i]=n at y0 HN;have hi0:(0:Int)≤(i:Int):=by omega
       have hlI:(i:Int)<(l.length:Int):=by omega
       have cw:wrap64 ((i:Int)+1)=(i:Int)+1:=IntWalk.wrap64_in _ (by omega)
       have hc1:¬ 9223372036854775807<1+T.length:=by omega
       have hc2:¬ 9223372036854775807<P.length+(1+T.length):=by omega
       go_wp2_with fail;refine (HN.out wr).mono ?_;rintro e w16 ⟨rfl,k16⟩;go_wp2_with fail
       go_roundw
       case rel =>
        refine ⟨i+1,rfl,hlt,?_,HK.out.trans k16⟩;rw [hst.out,← str_app,show (⟨#[32]⟩:ByteArray)++⟨T.toArray⟩=⟨(32 :: T).toArray⟩ from Value.string.inj (str_app [32] T)]
       case measure=>first | exact measS' hlt | exact measS hlt cw
     · have he:i=l.length:=by omega
       subst he;have BT:=h_ (B15.out.keeps0 HK.out);have htl:=hPl;rw [List.take_length] at htl;clear hPl HK B15 HA HAB HLV;have hcd:VM.Cd (K0 4000000) C17.vm:=C17.cd_start 4000000;have hcd9:VM.Cd (K0 900000) C17.vm:=C17.cd_start 900000;obtain ⟨p1,hp1,hd1⟩:=C17.text_is l hl40 (fun n hn=>H64.out n hn)
       have HTX:=rj_text 4000000 (ext0_ok K2 ob2 pm2 np2 mm2) (reset0_ok K2 ob2 pm2 np2 mm2) (e0_fine (K0 4000000)) wr YC (C17.r0,()) (C17.text l) (Nat.le_trans htl (by omega)) hcd (by show (C17.text l).length+40*(500:Int).toNat≤4000000;have:(C17.text l).length≤3+66*l.length:=htl;have:(500:Int).toNat=500:=rfl;omega) BT.out.duo.b
       rw [hp1] at HTX;have HTX:=h_ HTX;clear hp1 hd1 htl;go_wp2_with fail;refine HTX.out.mono ?_;rintro e w17 ⟨rfl,Y17,j17,e17⟩;have B17:=h_ (show Both (Gk1 K ob pm np mm nx gd) (Gk0 K2 ob2 pm2 np2 mm2) gd w w17 Z15 Y17 (C17.rz l) 0 (C17.rb (C17.nums l) (C17.text l) p1 (499-l.length)) from BT.out.stepB j17 e17)
       clear j17 e17 BT HTX;dsimp only;go_wp2_with fail;refine (B17.out.duo.b.pr (ext0_ok K2 ob2 pm2 np2 mm2) (F:=(C17.rb (C17.nums l) (C17.text l) p1 (499-l.length)).compile [43] [5]) (fun X h hX=>rd_compile1 _ X w17 _ [43] 5 (by decide) h)).mono ?_
       rintro e w18 ⟨rfl,Y18,j18,e18⟩;rw [C17.plus_rb l _ _ _ hl40] at j18 ⊢;have B18:=h_ (show Both (Gk1 K ob pm np mm nx gd) (Gk0 K2 ob2 pm2 np2 mm2) gd w w18 Z15 Y18 (C17.rz l) 0 (C17.rb (C17.nums l++[C17.tok [43],5]) (C17.text l) p1 (499-l.length)) from B17.out.stepB j18 e18)
       clear j18 e18 B17;dsimp only;obtain ⟨rq,hrq,erq⟩:=C17.end_is l (C17.text l) p1 (499-l.length) hl40 (by omega)
       rw [erq] at hrq;have HTX:=rj_text 4000000 (ext0_ok K2 ob2 pm2 np2 mm2) (reset0_ok K2 ob2 pm2 np2 mm2) (e0_fine (K0 4000000)) w18 Y18 (C17.rb (C17.nums l++[C17.tok [43],5]) (C17.text l) p1 (499-l.length),()) [59] (by decide) hcd (by show 1+40*((499:Int)-l.length).toNat≤4000000;omega) B18.out.duo.b
       rw [hrq] at HTX;have HTX:=h_ HTX;clear hrq erq;go_wp2_with fail;refine HTX.out.mono ?_;rintro e w19 ⟨rfl,Y19,j19,e19⟩;obtain ⟨f0,hf0⟩:∃ f0,f0=(499-l.length-1:Int):=⟨_,rfl⟩;have hf1:400≤f0:=by omega
       have hf2:f0≤500:=by omega
       rw [← hf0] at j19;have B19:=h_ (show Both (Gk1 K ob pm np mm nx gd) (Gk0 K2 ob2 pm2 np2 mm2) gd w w19 Z15 Y19 (C17.rz l) 0 (C17.rbz l f0) from B18.out.stepB j19 e19)
       clear j19 e19 B18 HTX hf0;dsimp only;obtain ⟨Xa,ha⟩:=B19.out.duo.a.rd;obtain ⟨Xb,hb⟩:=B19.out.duo.b.rd;have HAK:=h_ (alike17 w19 (Gk1 K ob pm np mm nx gd) (Gk0 K2 ob2 pm2 np2 mm2) Xa Xb (C17.rz l) (C17.rbz l f0) ha hb (C17.Y l) rfl rfl [] rfl rfl (by decide) rfl rfl [] rfl rfl)
       clear ha hb;go_wp2_with fail;refine HAK.out.mono ?_;rintro e w20 ⟨rfl,k20⟩;have B20:=h_ (B19.out.keeps0 k20);clear k20 HAK B19;have g0:=B20.out.seesA.2.2.2.2.2.2.1;have HCL:=h_ fun V=>clean17 V nm hnm
       obtain ⟨c0,t0,hcn,hsol,hcl⟩:=C17.clean_is nm;generalize cleanT nm=cn at HCL hcn hsol hcl;have HCN:=h_ hcn;clear hcn
       have HMS:=h_ (show (⟨#[109,111,114,101,32]⟩:ByteArray)++⟨cn.toArray⟩++⟨#[32,57]⟩=⟨(C17.moreT cn).toArray⟩ from by
        rw [show (⟨#[109,111,114,101,32]⟩:ByteArray)++⟨cn.toArray⟩=⟨([109,111,114,101,32]++cn).toArray⟩ from Value.string.inj (str_app [109,111,114,101,32] cn)]
        refine (Value.string.inj (str_app ([109,111,114,101,32]++cn) [32,57])).trans ?_
        simp [C17.moreT])
       have HSV:=h_ (show (⟨#[55,32,99,104,97,114,32]⟩:ByteArray)++⟨cn.toArray⟩++⟨#[32,57]⟩=⟨(C17.sevenT cn).toArray⟩ from by
        rw [show (⟨#[55,32,99,104,97,114,32]⟩:ByteArray)++⟨cn.toArray⟩=⟨([55,32,99,104,97,114,32]++cn).toArray⟩ from Value.string.inj (str_app [55,32,99,104,97,114,32] cn)]
        refine (Value.string.inj (str_app ([55,32,99,104,97,114,32]++cn) [32,57])).trans ?_
        simp [C17.sevenT,C17.charT])
       have hl1:(C17.moreT cn).length=cn.length+7:=by unfold C17.moreT;simp
       have hl2:(C17.sevenT cn).length=cn.length+9:=by unfold C17.sevenT C17.charT;simp
       have hq1:¬ 9223372036854775807<5+cn.length:=by omega
       have hq2:¬ 9223372036854775807<5+cn.length+2:=by omega
       have hq3:¬ 9223372036854775807<7+cn.length:=by omega
       have hq4:¬ 9223372036854775807<7+cn.length+2:=by omega
       go_wp2_with fail;refine (HCL.out w20).mono ?_;rintro e w21 ⟨rfl,k21⟩;have B21:=h_ (B20.out.keeps0 k21);clear k21 B20 g0;obtain ⟨p2,hp2,hd2⟩:=C17.more_is l 0 cn c0 t0 HCN.out hsol (by omega)
       have HTX:=rj_text 900000 (ext1_ok K ob pm np mm nx gd) (reset1_ok K ob pm np mm nx gd) e1_fine w21 Z15 (C17.rz l,0) (C17.moreT cn) (by omega) hcd9 (by rw [hl1];show cn.length+7+40*(500:Int).toNat≤900000;have:(500:Int).toNat=500:=rfl;omega) B21.out.duo.a
       rw [hp2,← HMS.out] at HTX;have HTX:=h_ HTX;clear hp2;go_wp2_with fail;refine HTX.out.mono ?_;rintro e w22 ⟨rfl,Z22,j22,e22⟩;have B22:=h_ (show Both (Gk1 K ob pm np mm nx gd) (Gk0 K2 ob2 pm2 np2 mm2) gd w w22 Z22 Y19 { C17.rz l with src:=C17.charT cn,at_:=p2,v:={ C17.three { C17.vm with x:=C17.Y l } c0 with fuel:=497 } } 0 (C17.rbz l f0) from B21.out.stepA j22 e22)
       clear j22 e22 B21 HTX;dsimp only;go_wp2_with fail;refine (HCL.out w22).mono ?_;rintro e w23 ⟨rfl,k23⟩;have B23:=h_ (B22.out.keeps0 k23);clear k23 B22;obtain ⟨p3,hp3,hd3⟩:=C17.seven_is l f0 cn c0 t0 HCN.out hsol (by omega)
       have HTX:=rj_text 4000000 (ext0_ok K2 ob2 pm2 np2 mm2) (reset0_ok K2 ob2 pm2 np2 mm2) (e0_fine (K0 4000000)) w23 Y19 (C17.rbz l f0,()) (C17.sevenT cn) (by omega) hcd (by rw [hl2];show cn.length+9+40*f0.toNat≤4000000;omega) B23.out.duo.b
       rw [hp3,← HSV.out] at HTX;have HTX:=h_ HTX;clear hp3;go_wp2_with fail;refine HTX.out.mono ?_;rintro e w24 ⟨rfl,Y24,j24,e24⟩;have B24:=h_ (show Both (Gk1 K ob pm np mm nx gd) (Gk0 K2 ob2 pm2 np2 mm2) gd w w24 Z22 Y24 { C17.rz l with src:=C17.charT cn,at_:=p2,v:={ C17.three { C17.vm with x:=C17.Y l } c0 with fuel:=497 } } 0 { C17.rbz l f0 with src:=C17.sevenT cn,at_:=p3,v:={ C17.three { C17.vm with x:=C17.Y l } c0 with fuel:=f0-3 } } from B23.out.stepB j24 e24)
       clear j24 e24 B23 HTX HMS HSV HCL;dsimp only;obtain ⟨hpo,hde⟩:=(show C17.Post (C17.three { C17.vm with x:=C17.Y l } c0)∧(C17.three { C17.vm with x:=C17.Y l } c0).d.depth=3 from C17.three_is l 500 c0)
       have hc3:=C17.three_cd 900000 ({ C17.vm with x:=C17.Y l }:VM) hcd9 c0;generalize C17.three { C17.vm with x:=C17.Y l } c0=v3 at B24 hpo hde hc3;obtain ⟨Xa,ha⟩:=B24.out.duo.a.rd;obtain ⟨Xb,hb⟩:=B24.out.duo.b.rd;have HAK:=h_ (alike17 w24 (Gk1 K ob pm np mm nx gd) (Gk0 K2 ob2 pm2 np2 mm2) Xa Xb { C17.rz l with src:=C17.charT cn,at_:=p2,v:={ v3 with fuel:=497 } } { C17.rbz l f0 with src:=C17.sevenT cn,at_:=p3,v:={ v3 with fuel:=f0-3 } } ha hb v3.x rfl rfl (Stk.all v3.x.mem v3.d) rfl rfl (by unfold Stk.all;rw [List.length_map,List.length_range,hde];decide) rfl rfl [] hd2 hd3)
       clear ha hb hd2 hd3;go_wp2_with fail;refine HAK.out.mono ?_;rintro e w25 ⟨rfl,k25⟩;have B25:=h_ (B24.out.keeps0 k25);clear k25 HAK B24;have htk:=C17.tick_is E1 (by decide) { C17.rz l with src:=C17.charT cn,at_:=p2,v:={ v3 with fuel:=497 } } 0 rfl rfl (C17.post_fuel hpo 497) (by show v3.d.depth<50;omega) (by show (1:Int)≤497;decide)
       have HTX:=rj_text 900000 (ext1_ok K ob pm np mm nx gd) (reset1_ok K ob pm np mm nx gd) e1_fine w25 Z22 ({ C17.rz l with src:=C17.charT cn,at_:=p2,v:={ v3 with fuel:=497 } },0) C17.tickT (by decide) hc3 (by show 3+40*(497:Int).toNat≤900000;decide) B25.out.duo.a
       rw [htk] at HTX;have HTX:=h_ HTX;clear htk;go_wp2_with fail;refine HTX.out.mono ?_;rintro e w26 ⟨rfl,Z26,j26,e26⟩;have B26:=h_ (B25.out.stepA j26 e26);clear j26 e26 B25 HTX;dsimp only;go_upto_region 31 with fail;have HPOP:=h_ (C17.pop_pushed { v3 with fuel:=497 } 2856 (by decide) (by decide) (C17.post_fuel hpo 497) (by show v3.d.depth<50;omega))
       have HFM:=h_ (C17.post_findM (C17.post_push (C17.post_fuel hpo 497) (by show v3.d.depth<60;omega) 2856))
       have qa:=B26.out.duo.a.rd;obtain ⟨X26,r26⟩:=qa;obtain ⟨la,lc,c2,hown⟩:=r26.lists;have c0:=r26.o0;have m0:=r26.v0;have s0:=r26.vs;obtain ⟨hob,hmb2,hsb,_⟩:=r26.lts
       have HFI:=h_ fun V (k:Keeps (fun _=>False) w26 V)=>(show Calls Tryz.prog 42 #[.pointer (some ⟨K.b,0,none⟩),.string ⟨#[87]⟩,.slice la 1 lc] V fun e w'=>e=.returned (findV (some ⟨2832,2856,0,[119]⟩))∧Keeps (fun _=>False) V w' from
        (fv_find K V _ [87] la lc [24] (by decide) (hown V k) (by decide) (r26.fv.keeps0 k)).mono fun e w' hh=>⟨hh.1.trans (congrArg (fun o=>Ending.returned (findV o)) HFM.out),hh.2⟩)
       have c0:w26.cell? ⟨ob,0,none⟩=some (.pointer (some ⟨K.mb,0,none⟩)):=c0;have c2:w26.cell? ⟨ob,2,none⟩=some (.slice la 1 lc):=c2;have m0:w26.cell? ⟨K.mb,0,none⟩=some (.pointer (some ⟨K.s,0,none⟩)):=m0;have s0:w26.cell? ⟨K.s,0,none⟩=some (.pointer (some ⟨K.b,0,none⟩)):=s0;have hob:ob<w26.heap.size:=hob;have hmb2:K.mb<w26.heap.size:=hmb2;have hsb:K.s<w26.heap.size:=hsb;clear hown HFM
       go_cut [24,25] (fun v24 v25 wx=>∃ g:Nat,v24=.pointer (some ⟨g,0,none⟩)∧v25=.bool true∧WdCells g 2832 2856 0 [119] wx∧Keeps (fun _=>False) w26 wx∧w26.heap.size≤g)
       case first =>
        go_region_held3 (fun w'=>w'.cell? ⟨ob,0,none⟩=some (.pointer (some ⟨K.mb,0,none⟩))∧w'.cell? ⟨ob,2,none⟩=some (.slice la 1 lc)∧w'.cell? ⟨K.mb,0,none⟩=some (.pointer (some ⟨K.s,0,none⟩))∧w'.cell? ⟨K.s,0,none⟩=some (.pointer (some ⟨K.b,0,none⟩)))
         (first | go_keep)
         (first
           | (go_at_call 42;refine (HFI.out (w26.alloc (.cells #[.int .i64 0,.int .i64 0,.int .i64 0,.string ⟨#[]⟩] 53)).drew ((ka_ w26 (.cells #[.int .i64 0,.int .i64 0,.int .i64 0,.string ⟨#[]⟩] 53)).trans (Keeps.drew _ _))).mono ?_;rintro e w4 ⟨rfl,k4⟩;dsimp only [findV,Wd.val]
              have ks:=((ka_ w26 (.cells #[.int .i64 0,.int .i64 0,.int .i64 0,.string ⟨#[]⟩] 53)).trans (kd_ _)).trans k4;have hz:=k4.heap (show ((w26.alloc (.cells #[.int .i64 0,.int .i64 0,.int .i64 0,.string ⟨#[]⟩] 53)).drew).heap[w26.heap.size]?=_ from halloc_at w26 _) id
              have e0:w4.cell? ⟨ob,0,none⟩=some (.pointer (some ⟨K.mb,0,none⟩)):=ks.cell c0 id;have e2:w4.cell? ⟨ob,2,none⟩=some (.slice la 1 lc):=ks.cell c2 id;have em:w4.cell? ⟨K.mb,0,none⟩=some (.pointer (some ⟨K.s,0,none⟩)):=ks.cell m0 id;have es:w4.cell? ⟨K.s,0,none⟩=some (.pointer (some ⟨K.b,0,none⟩)):=ks.cell s0 id;have z0:w4.cell? ⟨w26.heap.size,0,none⟩=some (.int .i64 0):=cell_of hz rfl;have z1:w4.cell? ⟨w26.heap.size,1,none⟩=some (.int .i64 0):=cell_of hz rfl;have z2:w4.cell? ⟨w26.heap.size,2,none⟩=some (.int .i64 0):=cell_of hz rfl;have z3:w4.cell? ⟨w26.heap.size,3,none⟩=some (.string ⟨#[]⟩):=cell_of hz rfl;have q0:=free_of (i:=0) hz;have q1:=free_of (i:=1) hz;have q2:=free_of (i:=2) hz;have q3:=free_of (i:=3) hz;have n1:w26.heap.size≠ob:=by omega
              have n2:w26.heap.size≠K.mb:=by omega
              have n3:w26.heap.size≠K.s:=by omega
              have n1':ob≠w26.heap.size:=by omega
              have n2':K.mb≠w26.heap.size:=by omega
              have n3':K.s≠w26.heap.size:=by omega)
           | (go_at_call 42;refine (HFI.out w26.drew (Keeps.drew _ _)).mono ?_;rintro e w4 ⟨rfl,k4⟩;dsimp only [findV,Wd.val]
              have ks:=(kd_ w26).trans k4;have e0:w4.cell? ⟨ob,0,none⟩=some (.pointer (some ⟨K.mb,0,none⟩)):=ks.cell c0 id;have e2:w4.cell? ⟨ob,2,none⟩=some (.slice la 1 lc):=ks.cell c2 id;have em:w4.cell? ⟨K.mb,0,none⟩=some (.pointer (some ⟨K.s,0,none⟩)):=ks.cell m0 id;have es:w4.cell? ⟨K.s,0,none⟩=some (.pointer (some ⟨K.b,0,none⟩)):=ks.cell s0 id;have l1:=World.block_lt_of_cell? w4 _ e0;have l2:=World.block_lt_of_cell? w4 _ em
              have l3:=World.block_lt_of_cell? w4 _ es))
        all_goals
         go_wp2_with fail
         go_meet
         refine ⟨_,rfl,rfl,?_⟩
         first
          | (have hB:=set4 (g:=w26.heap.size) hz (.int .i64 2832) (.int .i64 2856) (.int .i64 0) (.string ⟨#[119]⟩)
             have kB:=keeps_set4 ks w26.heap.size (.int .i64 2832) (.int .i64 2856) (.int .i64 0) (.string ⟨#[119]⟩) (Nat.le_refl _)
             exact ⟨hB,kB,Nat.le_refl _⟩)
          | (have hA:=halloc_at w4 (.cells #[(.int .i64 2832),(.int .i64 2856),(.int .i64 0),(.string ⟨#[119]⟩)] 53)
             have kA:=ks.trans (ka_ w4 (.cells #[(.int .i64 2832),(.int .i64 2856),(.int .i64 0),(.string ⟨#[119]⟩)] 53))
             exact ⟨hA,kA,ks.size⟩)
       case rest =>
        obtain ⟨g,rfl,rfl,hw,kc,hgn⟩:=hcut;have B27:=h_ (B26.out.keeps0 kc);have S27:=h_ (show Aside wc Z26 Y24 g _ from ⟨fun h=>by have:=B26.out.duo.a.lt g h;omega,fun h=>by have:=B26.out.duo.b.lt g h;omega,hw⟩)
        have HPO:=h_ ((rj_pop (ext1_ok K ob pm np mm nx gd) wc Z26 _ B27.out.duo.a).mono fun e w' h=>(⟨h.1.trans (congrArg (fun t:Stk × Int × Int=>Ending.returned (.tuple #[.int .i64 t.2.1,.int .i64 t.2.2])) HPOP.out),h.2⟩:e=.returned (.tuple #[.int .i64 2856,.int .i64 0])∧_))
        obtain ⟨q1,_,_,q4,_,_,_,_⟩:=B27.out.seesA;clear c0 c2 m0 s0 hob hmb2 hsb hw kc hgn HFI B26 r26;go_wp2_with fail;refine HPO.out.mono ?_;rintro e w28 ⟨rfl,Z28,j28,e28⟩;have B28:=h_ (B27.out.stepA j28 e28);have S28:=h_ (S27.out.stepA e28);have x1:w28.cell? ⟨g,1,none⟩=some (.int .i64 2856):=cell_of S28.out.h rfl;clear j28 e28 HPO B27 S27 q1 q4;obtain ⟨Xa,ha⟩:=B28.out.duo.a.rd;obtain ⟨Xb,hb⟩:=B28.out.duo.b.rd;obtain ⟨N,hN⟩:∃ N,N=(C17.rz l).xt [100,117,112]:=⟨_,rfl⟩;have ea:∀ r:Rd,r.pf=(C17.rz l).pf→r.xt [100,117,112]=N:=fun r h=>(xt_pf h _).trans hN.symm
        clear hN;have HXA:=h_ ((rd_xt _ Xa w28 _ [100,117,112] (by decide) ha).mono fun e w' h=>(⟨h.1.trans (congrArg (fun n:Int=>Ending.returned (.int .i64 n)) (ea _ (by dsimp only))),h.2⟩:e=.returned (.int .i64 N)∧w28=w'))
        have HXB:=h_ ((rd_xt _ Xb w28 _ [100,117,112] (by decide) hb).mono fun e w' h=>(⟨h.1.trans (congrArg (fun n:Int=>Ending.returned (.int .i64 n)) (ea _ (by dsimp only;exact rbz_pf l f0))),h.2⟩:e=.returned (.int .i64 N)∧w28=w'))
        clear ea;have KF:=B28.out.k;clear ha hb S28 HPOP B28;go_wp2_with fail;refine HXA.out.mono ?_;rintro e _ ⟨rfl,rfl⟩;go_wp2_with fail;refine HXB.out.mono ?_;rintro e _ ⟨rfl,rfl⟩;go_wp2_with fail;go_ret
        first | exact ⟨rfl,KF⟩ | exact ⟨by simp,KF⟩
end Go.Proofs.Shed
