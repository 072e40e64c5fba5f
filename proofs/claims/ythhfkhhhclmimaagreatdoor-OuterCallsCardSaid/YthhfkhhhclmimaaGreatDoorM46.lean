/- Of CallsG: WRdG, WRdH, WRdI, WRdJ, WRdK. No condition. -/
import Derived.Test.YthhfkhhhclmimaaGreatDoorM45
import Derived.Test.YthhfkhhhclmimaaGreatDoorM40
set_option linter.unusedVariables false
set_option linter.unusedSimpArgs false
set_option maxRecDepth 10000
set_option maxHeartbeats 4000000
namespace Go.Proofs.Shed
open Go Go.RowKit Go.Proofs.K Go.Proofs.Cod
theorem Rd.make_last (r:Rd) (list:Int) (s:List UInt8) (n fl:Int) (l:List Int) (h:(r.make list s n fl l).2.2=0):(r.make list s n fl l).1.last=(r.make list s n fl l).2.1:=by
 unfold Rd.make at h ⊢;split at h
 · rename_i e;exact absurd h e
 · rename_i e;rw [if_neg e]
theorem Rd.create_last (r:Rd) (n fl:Int) (l:List Int) (h:(r.create n fl l).2.2=0):(r.create n fl l).1.last=(r.create n fl l).2.1:=by
 unfold Rd.create at h ⊢;split at h
 · rename_i e;exact absurd h e
 · rename_i e;rw [if_neg e];exact Rd.make_last _ _ _ _ _ _ h
section
variable (G:Gk) (X:Nat→Prop) (w:World) (r:Rd)
theorem rd_mark (d:Wd) (fl:Int) (a0:0≤d.at_) (a1:d.at_≤4194304) (f0:0≤fl) (f1:fl≤255) (h:RRd w G X r):Calls Tryz.prog 37 #[.pointer (some ⟨G.K.b,0,none⟩),d.val,.int .i64 fl] w (PR G X w (r.mark d fl)) :=
 (fv_mark G.K w r.v d fl a0 a1 f0 f1 h.fv).mono fun _ _ ⟨he,hv,k⟩=>⟨he,X,h.vm hv k,h.evo k⟩
def WdOk (f:Nat) (F:Rd→Rd × Int):Prop:=∀ (G:Gk) (X:Nat→Prop) (w:World) (r:Rd),RRd w G X r→Calls Tryz.prog f #[.pointer (some ⟨G.ob,0,none⟩)] w (PR G X w (F r))
theorem wd_colon:WdOk 217 Rd.colon:=by
 intro G X w r h
 have hq:r.colon=if r.comp then (r,-22) else
  if (r.keep.create 1001 2 []).2.2≠0 then ((r.keep.create 1001 2 []).1,(r.keep.create 1001 2 []).2.2)
  else ({ (r.keep.create 1001 2 []).1 with open_:=(r.keep.create 1001 2 []).2.1 }.start false,0):=rfl
 generalize r.colon=Q at hq ⊢
 cases hc:r.comp with
 | true =>
  rw [if_pos hc] at hq;have HQ:=h_ hq;have R0:=h_ h;have E0:=h_ (Evo.refl w X);have o4:=R0.out.o4;rw [hc] at o4;clear h hq hc
  go_enter Tryz.func217,Tryz.ntmps217
  go_wp2_with fail;go_ret
  rw [HQ.out];exact ⟨rfl,_,R0.out,E0.out⟩
 | false =>
  rw [if_neg (by rw [hc];simp)] at hq
  have HK:=h_ fun V (hV:RRd V G X r)=>rd_keep G X V r hV
  have HCR:=h_ fun V Y (hV:RRd V G Y r.keep)=>rd_create0 G Y V r.keep 1001 2 (by decide) (by decide) hV
  have hl:=Rd.create_last r.keep 1001 2 [];generalize r.keep.create 1001 2 []=q at hq HCR hl;obtain ⟨r1,⟨da,dx,df,dn⟩,e1⟩:=q;simp only at hq hl
  unfold PRv Wd.val at HCR;simp only at HCR
  have R0:=h_ h;have E0:=h_ (Evo.refl w X);have o4:=R0.out.o4;rw [hc] at o4;have HL:=h_ hl;have HQ:=h_ hq;clear h hq hc hl
  go_enter Tryz.func217,Tryz.ntmps217
  go_wp2_with fail;refine (HK.out _ R0.out).mono ?_;rintro e w1 ⟨rfl,X1,r1,k1⟩;have R1:=h_ r1;have E1:=h_ (E0.out.trans k1);clear r1 k1
  try clear o4
  go_wp2_with fail;refine (HCR.out _ _ R1.out).mono ?_;rintro e w2 ⟨rfl,X2,r2,k2⟩;have R2:=h_ r2;have E2:=h_ (E1.out.trans k2);clear r2 k2
  try clear o4
  have ka:=ka_ w2 (.cells #[.int .i64 da,.int .i64 dx,.int .i64 df,.string ⟨dn.toArray⟩] 53);have HZ:=h_ (halloc_at w2 (.cells #[.int .i64 da,.int .i64 dx,.int .i64 df,.string ⟨dn.toArray⟩] 53));have R3:=h_ (R2.out.keeps0 ka);have E3:=h_ (E2.out.trans (Evo.of0 ka));by_cases he:e1=0
  · subst he
    rw [if_neg (by simp)] at HQ
    obtain ⟨g3,hg3⟩:∃ g3,g3=w2.heap.size:=⟨_,rfl⟩
    go_upto_if 17 with fail
    rw [← hg3] at HZ ⊢;generalize w2.alloc (.cells #[.int .i64 da,.int .i64 dx,.int .i64 df,.string ⟨dn.toArray⟩] 53)=w3 at HZ R3 E3 ⊢;have y0:w3.cell? ⟨g3,0,none⟩=some (.int .i64 da):=cell_of HZ.out rfl;have y1:w3.cell? ⟨g3,1,none⟩=some (.int .i64 dx):=cell_of HZ.out rfl;have y2:w3.cell? ⟨g3,2,none⟩=some (.int .i64 df):=cell_of HZ.out rfl;have y3:w3.cell? ⟨g3,3,none⟩=some (.string ⟨dn.toArray⟩):=cell_of HZ.out rfl;have o6:=R3.out.o6;have o7:=R3.out.o7;have o8:=R3.out.o8;have o9:=R3.out.o9;have f6:=R3.out.free 6;have f7:=R3.out.free 7;have f8:=R3.out.free 8;have f9:=R3.out.free 9;have ks:=keeps_cells4 w3 G.ob 6 7 8 9 (.int .i64 da) (.int .i64 dx) (.int .i64 df) (.string ⟨dn.toArray⟩);have hlast:=HL.out (by trivial)
    have R4:=h_ (R3.out.withOb (r':={ r1 with open_:=⟨da,dx,df,dn⟩ }) ks (fun D hc=>hset_same (hset_same (hset_same (hset_same hc _) _) _) _) ⟨rfl,rfl,rfl,rfl,rfl,rfl⟩ { R3.out.ok with open0:=by have:=R3.out.ok.last0;rw [hlast] at this;exact this,open1:=by have:=R3.out.ok.last1;rw [hlast] at this;exact this })
    have E4:=h_ (E3.out.trans (R3.out.evoOb ks));have HS:=h_ (rd_start G _ _ _ false R4.out);clear ka ks hlast hg3;go_wp2_with fail
    try clear o4;try clear o6;try clear o7;try clear o8;try clear o9
    refine (HS.out).mono ?_;rintro e w5 ⟨rfl,X5,r5,k5⟩;have R5:=h_ r5;have E5:=h_ (E4.out.trans k5);clear r5 k5
    try clear o4;try clear o6;try clear o7;try clear o8;try clear o9
    go_wp2_with fail;go_ret
    rw [HQ.out];exact ⟨rfl,_,R5.out,E5.out⟩
  · rw [if_pos (by simpa using he)] at HQ
    have d1:(e1 == 0)=false:=by simp [he]
    clear he ka HZ;go_wp2_with fail;go_ret
    rw [HQ.out];exact ⟨rfl,_,R3.out,E3.out⟩
theorem wd_semicolon:WdOk 218 Rd.semicolon:=by
 intro G X w r h;have hq:r.semicolon=if r.meth then (r,-22) else Rd.bind r.stop fun r=>Rd.bind (r.compile [101,120,105,116] []) fun r=>(r.semiEnd,0):=rfl
 generalize r.semicolon=Q at hq ⊢
 cases hc:r.meth with
 | true =>
  rw [if_pos hc] at hq;have HQ:=h_ hq;have R0:=h_ h;have E0:=h_ (Evo.refl w X);have o5:=R0.out.o5;rw [hc] at o5;clear h hq hc
  go_enter Tryz.func218,Tryz.ntmps218
  go_wp2_with fail;go_ret
  rw [HQ.out];exact ⟨rfl,_,R0.out,E0.out⟩
 | false =>
  rw [if_neg (by rw [hc];simp)] at hq
  have HS:=h_ (rd_stop G X w r h);have R0:=h_ h;have E0:=h_ (Evo.refl w X);have o5:=R0.out.o5;rw [hc] at o5;generalize r.stop=q1 at hq HS;obtain ⟨r1,e1⟩:=q1;by_cases he1:e1=0
  · subst he1
    have hq1:Q=Rd.bind (r1.compile [101,120,105,116] []) fun r=>(r.semiEnd,0):=by rw [hq];rfl
    have HC:=h_ fun V Y (hV:RRd V G Y r1)=>rd_compile0 G Y V r1 [101,120,105,116] (by decide) hV
    generalize r1.compile [101,120,105,116] []=q2 at hq1 HC;obtain ⟨r2,e2⟩:=q2;by_cases he2:e2=0
    · subst he2
      have hq2:Q=(r2.semiEnd,0):=by rw [hq1];rfl
      have HQ:=h_ hq2;clear h hq hq1 hq2 hc
      go_enter Tryz.func218,Tryz.ntmps218
      go_wp2_with fail;refine (HS.out).mono ?_;rintro e w1 ⟨rfl,X1,r1,k1⟩;have R1:=h_ r1;have E1:=h_ (E0.out.trans k1);clear r1 k1
      try clear o5
      go_wp2_with fail;refine (HC.out _ _ R1.out).mono ?_;rintro e w2 ⟨rfl,X2,r2,k2⟩;have R2:=h_ r2;have E2:=h_ (E1.out.trans k2);clear r2 k2
      try clear o5
      go_wp2_with fail;have hok:=R2.out.ok;have HM:=h_ fun V Y (hV:RRd V G Y r2)=>rd_mark G Y V r2 r2.open_ 0 hok.open0 hok.open1 (by decide) (by decide) hV
      have hse:r2.semiEnd=if r2.ord.length=1 then ({ (r2.mark r2.open_ 0).1 with last:=r2.open_ }:Rd).kept else { (r2.mark r2.open_ 0).1 with last:=r2.open_ }:=rfl
      have hop:(r2.mark r2.open_ 0).1.open_=r2.open_:=rfl;have hord:(r2.mark r2.open_ 0).1.ord=r2.ord:=rfl;generalize r2.mark r2.open_ 0=q3 at hse HM hop hord;obtain ⟨r3,e3⟩:=q3;simp only at hse hop hord
      have HSE:=h_ hse;have HOP:=h_ hop;have HORD:=h_ hord;unfold Wd.val at HM;have o0:=R2.out.o0;have v0:=R2.out.v0;have vs:=R2.out.vs;have o6:=R2.out.o6;have o7:=R2.out.o7;have o8:=R2.out.o8;have o9:=R2.out.o9;clear hok hse hop hord
      go_still_tail 14,(by kernel_rfl)
      try change wpList _ _ _ _ _ w2.drew
      have R3:=h_ (R2.out.keeps0 (kd_ w2));have E3:=h_ (E2.out.trans (Evo.of0 (kd_ w2)))
      try clear o0;try clear o5;try clear o6;try clear o7;try clear o8;try clear o9;try clear v0;try clear vs
      generalize w2.drew=w3 at R3 E3 ⊢;go_wp2_with fail;refine (HM.out _ _ R3.out).mono ?_;rintro e w4 ⟨rfl,X4,r4,k4⟩;have R4:=h_ r4;have E4:=h_ (E3.out.trans k4);clear r4 k4
      try clear o0;try clear o5;try clear o6;try clear o7;try clear o8;try clear o9;try clear v0;try clear vs
      have o6:=R4.out.o6;have o7:=R4.out.o7;have o8:=R4.out.o8;have o9:=R4.out.o9;have o10:=R4.out.o10;have o11:=R4.out.o11;have o12:=R4.out.o12;have o13:=R4.out.o13;rw [HOP.out] at o6 o7 o8 o9;have f10:=R4.out.free 10;have f11:=R4.out.free 11;have f12:=R4.out.free 12;have f13:=R4.out.free 13;have ks:=keeps_cells4 w4 G.ob 10 11 12 13 (.int .i64 r2.open_.at_) (.int .i64 r2.open_.xt) (.int .i64 r2.open_.flags) (.string ⟨r2.open_.name.toArray⟩);have R5:=h_ (R4.out.withOb (r':={ r3 with last:=r2.open_ }) ks (fun D hc=>hset_same (hset_same (hset_same (hset_same hc _) _) _) _) ⟨rfl,rfl,rfl,rfl,rfl,rfl⟩ { R4.out.ok with last0:=R2.out.ok.open0,last1:=R2.out.ok.open1 })
      have E5:=h_ (E4.out.trans (R4.out.evoOb ks));obtain ⟨la,lc,c2,_⟩:=R5.out.lists
      have c2':w4.cell? ⟨G.ob,2,none⟩=some (.slice la r3.ord.length lc):=by
       have hob:=R4.out.heap;obtain ⟨D,hob⟩:=hob
       have h1:((((w4.setCell ⟨G.ob,10,none⟩ (.int .i64 r2.open_.at_)).setCell ⟨G.ob,11,none⟩ (.int .i64 r2.open_.xt)).setCell ⟨G.ob,12,none⟩ (.int .i64 r2.open_.flags)).setCell ⟨G.ob,13,none⟩ (.string ⟨r2.open_.name.toArray⟩)).cell? ⟨G.ob,2,none⟩=w4.cell? ⟨G.ob,2,none⟩:=by
        rw [cell_of (hset_same (hset_same (hset_same (hset_same hob _) _) _) _) rfl,cell_of hob rfl];rfl
       rw [← h1];exact c2
      rw [HORD.out] at c2';have HKP:=h_ (rd_kept G _ _ _ R5.out);clear c2 ks;have hse:=HSE.out;by_cases hl:r2.ord.length=1
      · have HQ2:=h_ (HQ.out.trans (by rw [hse,if_pos hl]))
        have d3:((r2.ord.length:Int) == 1)=true:=by simp [hl]
        clear hl hse HSE HQ;go_wp2_with fail
        try clear o0;try clear o5;try clear o6;try clear o7;try clear o8;try clear o9;try clear o10;try clear o11;try clear o12;try clear o13;try clear v0;try clear vs
        refine (HKP.out).mono ?_;rintro e w6 ⟨rfl,X6,r6,k6⟩;have R6:=h_ r6;have E6:=h_ (E5.out.trans k6);clear r6 k6
        try clear o0;try clear o5;try clear o6;try clear o7;try clear o8;try clear o9;try clear o10;try clear o11;try clear o12;try clear o13;try clear v0;try clear vs
        go_wp2_with fail;go_ret
        rw [HQ2.out];exact ⟨rfl,_,R6.out,E6.out⟩
      · have HQ2:=h_ (HQ.out.trans (by rw [hse,if_neg hl]))
        have d3:((r2.ord.length:Int) == 1)=false:=by simp;omega
        clear hl hse HSE HQ;go_wp2_with fail;go_ret
        rw [HQ2.out];exact ⟨rfl,_,R5.out,E5.out⟩
    · have hq2:Q=(r2,e2):=by rw [hq1];unfold Rd.bind;rw [if_pos (by simpa using he2)]
      have HQ:=h_ hq2;have d1:(e2 == 0)=false:=by simp [he2]
      clear h hq hq1 hq2 hc he2
      go_enter Tryz.func218,Tryz.ntmps218
      go_wp2_with fail;refine (HS.out).mono ?_;rintro e w1 ⟨rfl,X1,r1,k1⟩;have R1:=h_ r1;have E1:=h_ (E0.out.trans k1);clear r1 k1
      try clear o0;try clear o5;try clear o6;try clear o7;try clear o8;try clear o9;try clear o10;try clear o11;try clear o12;try clear o13;try clear v0;try clear vs
      go_wp2_with fail;refine (HC.out _ _ R1.out).mono ?_;rintro e w2 ⟨rfl,X2,r2,k2⟩;have R2:=h_ r2;have E2:=h_ (E1.out.trans k2);clear r2 k2
      try clear o0;try clear o5;try clear o6;try clear o7;try clear o8;try clear o9;try clear o10;try clear o11;try clear o12;try clear o13;try clear v0;try clear vs
      go_wp2_with fail;go_ret
      rw [HQ.out];exact ⟨rfl,_,R2.out,E2.out⟩
  · have hq1:Q=(r1,e1):=by rw [hq];unfold Rd.bind;rw [if_pos (by simpa using he1)]
    have HQ:=h_ hq1;have d1:(e1 == 0)=false:=by simp [he1]
    clear h hq hq1 hc he1
    go_enter Tryz.func218,Tryz.ntmps218
    go_wp2_with fail;refine (HS.out).mono ?_;rintro e w1 ⟨rfl,X1,r1,k1⟩;have R1:=h_ r1;have E1:=h_ (E0.out.trans k1);clear r1 k1
    try clear o0;try clear o5;try clear o6;try clear o7;try clear o8;try clear o9;try clear o10;try clear o11;try clear o12;try clear o13;try clear v0;try clear vs
    go_wp2_with fail;go_ret
    rw [HQ.out];exact ⟨rfl,_,R1.out,E1.out⟩
end
theorem wd_immediate:WdOk 219 Rd.immediate:=by
 intro G X w r h;have hq:r.immediate=if r.comp=true∨r.last.xt=0 then (r,-22) else r.mark r.last 1:=rfl
 generalize r.immediate=Q at hq ⊢
 cases hc:r.comp with
 | true =>
  rw [if_pos (.inl hc)] at hq;have HQ:=h_ hq;have R0:=h_ h;have E0:=h_ (Evo.refl w X);have o4:=R0.out.o4;rw [hc] at o4;clear h hq hc
  go_enter Tryz.func219,Tryz.ntmps219
  go_wp2_with fail;go_ret
  rw [HQ.out];exact ⟨rfl,_,R0.out,E0.out⟩
 | false =>
  by_cases hx:r.last.xt=0
  · rw [if_pos (.inr hx)] at hq
    have HQ:=h_ hq;have R0:=h_ h;have E0:=h_ (Evo.refl w X);have o4:=R0.out.o4;have o11:=R0.out.o11;rw [hc] at o4;rw [hx] at o11;clear h hq hc hx
    go_enter Tryz.func219,Tryz.ntmps219
    go_wp2_with fail;go_ret
    rw [HQ.out];exact ⟨rfl,_,R0.out,E0.out⟩
  · rw [if_neg (by rw [hc];simp [hx])] at hq
    have HM:=h_ fun V (hV:RRd V G X r)=>rd_mark G X V r r.last 1 h.ok.last0 h.ok.last1 (by decide) (by decide) hV
    rw [← hq] at HM;unfold Wd.val at HM;have R0:=h_ h;have E0:=h_ (Evo.refl w X);have o0:=R0.out.o0;have o4:=R0.out.o4;have o10:=R0.out.o10;have o11:=R0.out.o11;have o12:=R0.out.o12;have o13:=R0.out.o13;have v0:=R0.out.v0;have vs:=R0.out.vs;rw [hc] at o4;have d1:(r.last.xt == 0)=false:=by simp [hx]
    clear h hq hc hx
    go_enter Tryz.func219,Tryz.ntmps219
    go_wp2_with fail
    go_still_tail 14,(by kernel_rfl)
    try change wpList _ _ _ _ _ w.drew
    have R1:=h_ (R0.out.keeps0 (kd_ w));have E1:=h_ (E0.out.trans (Evo.of0 (kd_ w)))
    try clear o0;try clear o4;try clear o10;try clear o11;try clear o12;try clear o13;try clear v0;try clear vs
    generalize w.drew=w1 at R1 E1 ⊢;go_wp2_with fail;refine (HM.out _ R1.out).mono ?_;rintro e w2 ⟨rfl,X2,r2,k2⟩;have R2:=h_ r2;have E2:=h_ (E1.out.trans k2);clear r2 k2
    try clear o0;try clear o4;try clear o10;try clear o11;try clear o12;try clear o13;try clear v0;try clear vs
    go_wp2_with fail;go_ret
    exact ⟨rfl,_,R2.out,E2.out⟩
theorem wd_recurse:WdOk 221 Rd.recurse:=by
 intro G X w r h;have hq:r.recurse=if r.meth then (r,-22) else r.comma r.open_.xt:=rfl
 generalize r.recurse=Q at hq ⊢
 cases hc:r.meth with
 | true =>
  rw [if_pos hc] at hq;have HQ:=h_ hq;have R0:=h_ h;have E0:=h_ (Evo.refl w X);have o5:=R0.out.o5;rw [hc] at o5;clear h hq hc
  go_enter Tryz.func221,Tryz.ntmps221
  go_wp2_with fail;go_ret
  rw [HQ.out];exact ⟨rfl,_,R0.out,E0.out⟩
 | false =>
  rw [if_neg (by rw [hc];simp)] at hq
  have HM:=h_ fun V (hV:RRd V G X r)=>rd_comma G X V r r.open_.xt hV
  rw [← hq] at HM;have R0:=h_ h;have E0:=h_ (Evo.refl w X);have o0:=R0.out.o0;have o5:=R0.out.o5;have o7:=R0.out.o7;have v0:=R0.out.v0;rw [hc] at o5;clear h hq hc
  go_enter Tryz.func221,Tryz.ntmps221
  go_wp2_with fail
  go_still_tail 12,(by kernel_rfl)
  try change wpList _ _ _ _ _ w.drew
  have R1:=h_ (R0.out.keeps0 (kd_ w));have E1:=h_ (E0.out.trans (Evo.of0 (kd_ w)))
  try clear o0;try clear o5;try clear o7;try clear v0
  generalize w.drew=w1 at R1 E1 ⊢;go_wp2_with fail;refine (HM.out _ R1.out).mono ?_;rintro e w2 ⟨rfl,X2,r2,k2⟩;have R2:=h_ r2;have E2:=h_ (E1.out.trans k2);clear r2 k2
  try clear o0;try clear o5;try clear o7;try clear v0
  go_wp2_with fail;go_ret
  exact ⟨rfl,_,R2.out,E2.out⟩
theorem wd_exit:WdOk 222 Rd.exit:=by
 intro G X w r h;have hq:r.exit=if r.meth then r.compile [40,101,120,105,116,109,41] [] else r.compile [101,120,105,116] []:=rfl
 generalize r.exit=Q at hq ⊢;have H1:=h_ (rd_compile0 G X w r [40,101,120,105,116,109,41] (by decide) h)
 have H2:=h_ (rd_compile0 G X w r [101,120,105,116] (by decide) h)
 have R0:=h_ h;have E0:=h_ (Evo.refl w X);have o5:=R0.out.o5
 cases hc:r.meth with
 | true =>
  rw [if_pos hc] at hq;rw [← hq] at H1;rw [hc] at o5;clear h hq hc
  go_enter Tryz.func222,Tryz.ntmps222
  go_wp2_with fail;refine (H1.out).mono ?_;rintro e w1 ⟨rfl,X1,r1,k1⟩;have R1:=h_ r1;have E1:=h_ (E0.out.trans k1);clear r1 k1
  try clear o5
  go_wp2_with fail;go_ret
  exact ⟨rfl,_,R1.out,E1.out⟩
 | false =>
  rw [if_neg (by rw [hc];simp)] at hq
  rw [← hq] at H2;rw [hc] at o5;clear h hq hc
  go_enter Tryz.func222,Tryz.ntmps222
  go_wp2_with fail;refine (H2.out).mono ?_;rintro e w1 ⟨rfl,X1,r1,k1⟩;have R1:=h_ r1;have E1:=h_ (E0.out.trans k1);clear r1 k1
  try clear o5
  go_wp2_with fail;go_ret
  exact ⟨rfl,_,R1.out,E1.out⟩
theorem rd_defining (G:Gk) (X:Nat→Prop) (w:World) (r:Rd) (n:Int) (a:Option Addr) (c:Nat) (l:List Int) (ha:ArgI w a l) (hl:l.length≤100000) (hne:∀ g,blk a=some g→¬ X g∧g<w.heap.size) (h:RRd w G X r) :
 Calls Tryz.prog 224 #[.pointer (some ⟨G.ob,0,none⟩),.int .i64 n,.slice a l.length c] w (PR G X w (r.defining n l)):=by
 have hq:r.defining n l=if r.comp then (r,-22) else Rd.code3 (r.create n 0 l):=rfl
 generalize r.defining n l=Q at hq ⊢;have HC:=h_ (rd_create G X w r n 0 a c l (by decide) (by decide) ha hl hne h)
 have R0:=h_ h;have E0:=h_ (Evo.refl w X);have o4:=R0.out.o4
 cases hc:r.comp with
 | true =>
  rw [if_pos hc] at hq;have HQ:=h_ hq;rw [hc] at o4;clear h hq hc
  go_enter Tryz.func224,Tryz.ntmps224
  go_wp2_with fail;go_ret
  rw [HQ.out];exact ⟨rfl,_,R0.out,E0.out⟩
 | false =>
  rw [if_neg (by rw [hc];simp)] at hq
  rw [hc] at o4;generalize r.create n 0 l=q at hq HC;obtain ⟨r1,⟨da,dx,df,dn⟩,e1⟩:=q;unfold PRv Wd.val at HC;simp only at HC
  have HQ:=h_ (show Q=(r1,e1) from hq)
  clear h hq hc
  go_enter Tryz.func224,Tryz.ntmps224
  go_wp2_with fail;refine (HC.out).mono ?_;rintro e w1 ⟨rfl,X1,r1,k1⟩;have R1:=h_ r1;have E1:=h_ (E0.out.trans k1);clear r1 k1
  try clear o4
  have R2:=h_ (R1.out.keeps0 (ka_ w1 (.cells #[.int .i64 da,.int .i64 dx,.int .i64 df,.string ⟨dn.toArray⟩] 53)));have E2:=h_ (E1.out.trans (Evo.of0 (ka_ w1 (.cells #[.int .i64 da,.int .i64 dx,.int .i64 df,.string ⟨dn.toArray⟩] 53))));go_wp2_with fail;go_ret
  rw [HQ.out];exact ⟨rfl,_,R2.out,E2.out⟩
theorem rd_defining1 (G:Gk) (X:Nat→Prop) (w:World) (r:Rd) (n m:Int) (h:RRd w G X r) :
 Calls Tryz.prog 224 #[.pointer (some ⟨G.ob,0,none⟩),.int .i64 n,.slice (some ⟨w.heap.size,0,none⟩) 1 1] (w.alloc (.cells #[.int .i64 m] 2)) (PR G X w (r.defining n [m])):=by
 have ka:=ka_ w (.cells #[.int .i64 m] 2);refine (rd_defining G X _ r n _ 1 [m] (argI_1 w m _) (by simp) (fun g hg=>?_) (h.keeps0 ka)).mono ?_
 · cases hg
   exact ⟨h.fnew,by show w.heap.size<_;rw [World.size_alloc];omega⟩
 · rintro e w' ⟨rfl,X',h1,h2⟩
   exact ⟨rfl,X',h1,(Evo.of0 ka).trans h2⟩
theorem wd_variable:WdOk 223 (fun r=>r.defining 1002 [0]):=by
 intro G X w r h;have HD:=h_ (rd_defining1 G X w r 1002 0 h)
 show Calls _ _ _ _ (PR G X w (r.defining 1002 [0]))
 generalize r.defining 1002 [0]=Q at HD ⊢;have R0:=h_ h;have E0:=h_ (Evo.refl w X);clear h
 go_enter Tryz.func223,Tryz.ntmps223
 go_wp2_with fail;refine (HD.out).mono ?_;rintro e w1 ⟨rfl,X1,r1,k1⟩;have R1:=h_ r1;have E1:=h_ (E0.out.trans k1);clear r1 k1
 skip
 go_wp2_with fail;go_ret
 exact ⟨rfl,_,R1.out,E1.out⟩
theorem wd_create:WdOk 225 (fun r=>r.defining 1002 []):=by
 intro G X w r h;have HD:=h_ (rd_defining G X w r 1002 none 0 [] (fun i hi=>absurd hi (by simp)) (by simp) (fun g hg=>by cases hg) h)
 show Calls _ _ _ _ (PR G X w (r.defining 1002 []))
 generalize r.defining 1002 []=Q at HD ⊢;have R0:=h_ h;have E0:=h_ (Evo.refl w X);clear h
 go_enter Tryz.func225,Tryz.ntmps225
 go_wp2_with fail;refine (HD.out).mono ?_;rintro e w1 ⟨rfl,X1,r1,k1⟩;have R1:=h_ r1;have E1:=h_ (E0.out.trans k1);clear r1 k1
 skip
 go_wp2_with fail;go_ret
 exact ⟨rfl,_,R1.out,E1.out⟩
theorem rd_pop (G:Gk) (X:Nat→Prop) (w:World) (r:Rd) (h:RRd w G X r):Calls Tryz.prog 43 #[.pointer (some ⟨G.K.db,0,none⟩)] w
 fun e w'=>e=.returned (.tuple #[.int .i64 r.v.pop.2.1,.int .i64 r.v.pop.2.2])∧∃ X',RRd w' G X' { r with v:=r.v.pop.1 }∧Evo w X w' X' :=
 (fv_pop G.K w r.v h.fv).mono fun _ _ ⟨he,hv,k⟩=>⟨he,X,h.vm hv k,h.evo k⟩
theorem wd_constant:WdOk 226 Rd.constant:=by
 intro G X w r h
 have hq:r.constant=if r.comp then (r,-22) else
  if r.v.pop.2.2≠0 then ({ r with v:=r.v.pop.1 },r.v.pop.2.2) else Rd.code3 ({ r with v:=r.v.pop.1 }.create 1003 0 [r.v.pop.2.1]):=rfl
 generalize r.constant=Q at hq ⊢;have HP:=h_ (rd_pop G X w r h);have R0:=h_ h;have E0:=h_ (Evo.refl w X);have o0:=R0.out.o0;have o4:=R0.out.o4;have v1:=R0.out.v1
 cases hc:r.comp with
 | true =>
  rw [if_pos hc] at hq;have HQ:=h_ hq;rw [hc] at o4;clear h hq hc
  go_enter Tryz.func226,Tryz.ntmps226
  go_wp2_with fail;go_ret
  rw [HQ.out];exact ⟨rfl,_,R0.out,E0.out⟩
 | false =>
  rw [if_neg (by rw [hc];simp)] at hq
  rw [hc] at o4;generalize r.v.pop=p at hq HP;obtain ⟨v1,n,e1⟩:=p;simp only at hq HP
  generalize ({ r with v:=v1 }:Rd)=r1 at hq HP;by_cases he:e1=0
  · subst he
    rw [if_neg (by simp)] at hq
    have HC:=h_ fun V Y (hV:RRd V G Y r1)=>rd_create1 G Y V r1 1003 0 n (by decide) (by decide) hV
    generalize r1.create 1003 0 [n]=q at hq HC;obtain ⟨r2,⟨da,dx,df,dn⟩,e2⟩:=q;unfold PRv Wd.val at HC;simp only at HC
    have HQ:=h_ (show Q=(r2,e2) from hq)
    clear h hq hc
    go_enter Tryz.func226,Tryz.ntmps226
    go_wp2_with fail;refine (HP.out).mono ?_;rintro e w1 ⟨rfl,X1,r1,k1⟩;have R1:=h_ r1;have E1:=h_ (E0.out.trans k1);clear r1 k1
    try clear o0;try clear o4;try clear v1
    go_wp2_with fail;refine (HC.out _ _ R1.out).mono ?_;rintro e w2 ⟨rfl,X2,r2,k2⟩;have R2:=h_ r2;have E2:=h_ (E1.out.trans k2);clear r2 k2
    try clear o0;try clear o4;try clear v1
    go_wp2_with fail;go_ret
    rw [HQ.out];exact ⟨rfl,_,R2.out,E2.out⟩
  · rw [if_pos (by simpa using he)] at hq
    have HQ:=h_ hq;have d1:(e1 == 0)=false:=by simp [he]
    clear h hq hc he
    go_enter Tryz.func226,Tryz.ntmps226
    go_wp2_with fail;refine (HP.out).mono ?_;rintro e w1 ⟨rfl,X1,r1,k1⟩;have R1:=h_ r1;have E1:=h_ (E0.out.trans k1);clear r1 k1
    try clear o0;try clear o4;try clear v1
    go_wp2_with fail;go_ret
    rw [HQ.out];exact ⟨rfl,_,R1.out,E1.out⟩
section
variable (G:Gk) (X:Nat→Prop) (w:World) (r:Rd)
theorem RRd.here_bd {w:World} {G:Gk} {X:Nat→Prop} {r:Rd} (h:RRd w G X r):0≤r.v.x.here∧r.v.x.here≤4194304:=by
 obtain ⟨h1,h2,h3,h4⟩:=h.fv.vm.sp.ok;have:=h.fv.vm.sp.mem.le;omega
theorem rd_here (h:RRd w G X r):Calls Tryz.prog 35 #[.pointer (some ⟨G.K.s,0,none⟩)] w fun e w'=>e=.returned (.int .i64 r.v.x.here)∧w=w':=fv_here G.K w r.v h.fv
theorem rd_forward (s:List UInt8) (k:Int) (hs:s.length≤1000000000) (k0:0≤k) (k1:k≤3) (h:RRd w G X r):Calls Tryz.prog 228 #[.pointer (some ⟨G.ob,0,none⟩),.string ⟨s.toArray⟩,.int .i64 k] w (PR G X w (r.forward s k)):=by
 have hq:r.forward s k=Rd.bind (r.compile s [0]) fun r=>r.mopen k (r.v.x.here-8):=rfl
 generalize r.forward s k=Q at hq ⊢;have HC:=h_ (rd_compile1 G X w r s 0 hs h);have R0:=h_ h;have E0:=h_ (Evo.refl w X);generalize r.compile s [0]=q1 at hq HC;obtain ⟨r1,e1⟩:=q1;by_cases he:e1=0
 · subst he
   have hq1:Q=r1.mopen k (r1.v.x.here-8):=hq;have HO:=h_ fun V Y (hV:RRd V G Y r1)=>rd_mopen G Y V r1 k (r1.v.x.here-8) k0 k1 hV
   have HH:=h_ fun V Y (hV:RRd V G Y r1)=>rd_here G Y V r1 hV
   have HB:=h_ fun V Y (hV:RRd V G Y r1)=>hV.here_bd
   rw [← hq1] at HO;generalize r1.v.x.here=hh at HO HH HB;clear h hq hq1
   go_enter Tryz.func228,Tryz.ntmps228
   go_wp2_with fail;refine (HC.out).mono ?_;rintro e w1 ⟨rfl,X1,r1,k1⟩;have R1:=h_ r1;have E1:=h_ (E0.out.trans k1);clear r1 k1
   skip
   go_wp2_with fail;have o0:=R1.out.o0;have v0:=R1.out.v0;have hb:=HB.out _ _ R1.out;have hw:IntKind.i64.wrap (hh-8)=hh-8:=IntWalk.i64_in _ (by omega)
   have hw2:wrap64 (hh-8)=hh-8:=IntWalk.wrap64_in _ (by omega)
   clear hb
   go_region_held3 (fun w'=>w'.cell? ⟨G.ob,0,none⟩=some (.pointer (some ⟨G.K.mb,0,none⟩))∧w'.cell? ⟨G.K.mb,0,none⟩=some (.pointer (some ⟨G.K.s,0,none⟩)))
    (first | go_keep | exact ⟨t0,tv⟩)
    (first
      | (go_at_call 35;refine (HH.out _ _ (R1.out.keeps0 (Keeps.drew _ _))).mono ?_;rintro e w9 ⟨rfl,rfl⟩;dsimp only)
      | (go_at_call 233;refine (HO.out _ _ (R1.out.keeps0 (Keeps.drew _ _))).mono ?_;rintro e w2 ⟨rfl,X2,r2,k2⟩;dsimp only;have t0:=r2.o0;have tv:=r2.v0))
   have R2:=h_ r2;have E2:=h_ (E1.out.trans ((Evo.of0 (kd_ w1)).trans k2));clear r2 k2
   try clear t0
   try clear tv
   try clear ts
   try clear o0;try clear v0
   go_wp2_with fail;go_ret
   exact ⟨rfl,_,R2.out,E2.out⟩
 · have hq1:Q=(r1,e1):=by rw [hq];unfold Rd.bind;rw [if_pos (by simpa using he)]
   have HQ:=h_ hq1;have d1:(e1 == 0)=false:=by simp [he]
   clear h hq hq1 he
   go_enter Tryz.func228,Tryz.ntmps228
   go_wp2_with fail;refine (HC.out).mono ?_;rintro e w1 ⟨rfl,X1,r1,k1⟩;have R1:=h_ r1;have E1:=h_ (E0.out.trans k1);clear r1 k1
   try clear o0;try clear v0
   go_wp2_with fail;go_ret
   rw [HQ.out];exact ⟨rfl,_,R1.out,E1.out⟩
theorem rd_patch (k:Int) (h:RRd w G X r):Calls Tryz.prog 231 #[.pointer (some ⟨G.ob,0,none⟩),.int .i64 k] w (PR G X w (r.patch k)):=by
 have hq:r.patch k=if (r.mclose k).2.2≠0 then ((r.mclose k).1,(r.mclose k).2.2) else (r.mclose k).1.setCell (r.mclose k).2.1 (r.mclose k).1.v.x.here:=rfl
 generalize r.patch k=Q at hq ⊢;have HC:=h_ (rd_mclose G X w r k h);have R0:=h_ h;have E0:=h_ (Evo.refl w X);generalize r.mclose k=q1 at hq HC;obtain ⟨r1,a,e1⟩:=q1;unfold PRv at HC;simp only at hq HC
 by_cases he:e1=0
 · subst he
   rw [if_neg (by simp)] at hq
   have HH:=h_ fun V Y (hV:RRd V G Y r1)=>rd_here G Y V r1 hV
   generalize r1.v.x.here=hh at HH hq;have HS:=h_ fun V Y (hV:RRd V G Y r1)=>rd_setCell G Y V r1 a hh hV
   rw [← hq] at HS;clear h hq
   go_enter Tryz.func231,Tryz.ntmps231
   go_wp2_with fail;refine (HC.out).mono ?_;rintro e w1 ⟨rfl,X1,r1,k1⟩;have R1:=h_ r1;have E1:=h_ (E0.out.trans k1);clear r1 k1
   skip
   go_wp2_with fail;have o0:=R1.out.o0;have v0:=R1.out.v0;have vs:=R1.out.vs
   go_region_held3 (fun w'=>w'.cell? ⟨G.ob,0,none⟩=some (.pointer (some ⟨G.K.mb,0,none⟩))∧w'.cell? ⟨G.K.mb,0,none⟩=some (.pointer (some ⟨G.K.s,0,none⟩))∧w'.cell? ⟨G.K.s,0,none⟩=some (.pointer (some ⟨G.K.b,0,none⟩)))
    (first | go_keep | exact ⟨t0,tv,ts⟩)
    (first
      | (go_at_call 35;refine (HH.out _ _ (R1.out.keeps0 (Keeps.drew _ _))).mono ?_;rintro e w9 ⟨rfl,rfl⟩;dsimp only)
      | (go_at_call 85;refine (HS.out _ _ (R1.out.keeps0 (Keeps.drew _ _))).mono ?_;rintro e w2 ⟨rfl,X2,r2,k2⟩;dsimp only;have t0:=r2.o0;have tv:=r2.v0;have ts:=r2.vs))
   have R2:=h_ r2;have E2:=h_ (E1.out.trans ((Evo.of0 (kd_ w1)).trans k2));clear r2 k2
   try clear t0
   try clear tv
   try clear ts
   try clear o0;try clear v0;try clear vs
   go_wp2_with fail;go_ret
   exact ⟨rfl,_,R2.out,E2.out⟩
 · rw [if_pos (by simpa using he)] at hq
   have HQ:=h_ hq;have d1:(e1 == 0)=false:=by simp [he]
   clear h hq he
   go_enter Tryz.func231,Tryz.ntmps231
   go_wp2_with fail;refine (HC.out).mono ?_;rintro e w1 ⟨rfl,X1,r1,k1⟩;have R1:=h_ r1;have E1:=h_ (E0.out.trans k1);clear r1 k1
   try clear o0;try clear v0;try clear vs
   go_wp2_with fail;go_ret
   rw [HQ.out];exact ⟨rfl,_,R1.out,E1.out⟩
theorem rd_back_ (s:List UInt8) (k:Int) (hs:s.length≤1000000000) (h:RRd w G X r):Calls Tryz.prog 235 #[.pointer (some ⟨G.ob,0,none⟩),.string ⟨s.toArray⟩,.int .i64 k] w (PR G X w (r.back s k)):=by
 have hq:r.back s k=if (r.mclose k).2.2≠0 then ((r.mclose k).1,(r.mclose k).2.2) else (r.mclose k).1.compile s [(r.mclose k).2.1]:=rfl
 generalize r.back s k=Q at hq ⊢;have HC:=h_ (rd_mclose G X w r k h);have R0:=h_ h;have E0:=h_ (Evo.refl w X);generalize r.mclose k=q1 at hq HC;obtain ⟨r1,a,e1⟩:=q1;unfold PRv at HC;simp only at hq HC
 by_cases he:e1=0
 · subst he
   rw [if_neg (by simp)] at hq
   have HS:=h_ fun V Y (hV:RRd V G Y r1)=>rd_compile1 G Y V r1 s a hs hV
   rw [← hq] at HS;clear h hq
   go_enter Tryz.func235,Tryz.ntmps235
   go_wp2_with fail;refine (HC.out).mono ?_;rintro e w1 ⟨rfl,X1,r1,k1⟩;have R1:=h_ r1;have E1:=h_ (E0.out.trans k1);clear r1 k1
   skip
   go_wp2_with fail;refine (HS.out _ _ R1.out).mono ?_;rintro e w2 ⟨rfl,X2,r2,k2⟩;have R2:=h_ r2;have E2:=h_ (E1.out.trans k2);clear r2 k2
   skip
   go_wp2_with fail;go_ret
   exact ⟨rfl,_,R2.out,E2.out⟩
 · rw [if_pos (by simpa using he)] at hq
   have HQ:=h_ hq;have d1:(e1 == 0)=false:=by simp [he]
   clear h hq he
   go_enter Tryz.func235,Tryz.ntmps235
   go_wp2_with fail;refine (HC.out).mono ?_;rintro e w1 ⟨rfl,X1,r1,k1⟩;have R1:=h_ r1;have E1:=h_ (E0.out.trans k1);clear r1 k1
   skip
   go_wp2_with fail;go_ret
   rw [HQ.out];exact ⟨rfl,_,R1.out,E1.out⟩
end
theorem wd_else:WdOk 229 Rd.otherwise:=by
 intro G X w r h;have hq:r.otherwise=if (r.mclose 0).2.2≠0 then ((r.mclose 0).1,(r.mclose 0).2.2) else Rd.bind ((r.mclose 0).1.forward [98,114,97,110,99,104] 0) fun u=>u.setCell (r.mclose 0).2.1 u.v.x.here:=rfl
 generalize r.otherwise=Q at hq ⊢;have HC:=h_ (rd_mclose G X w r 0 h);have R0:=h_ h;have E0:=h_ (Evo.refl w X);generalize r.mclose 0=q1 at hq HC;obtain ⟨r1,a,e1⟩:=q1;unfold PRv at HC;simp only at hq HC
 by_cases he:e1=0
 · subst he
   rw [if_neg (by simp)] at hq
   have HF:=h_ fun V Y (hV:RRd V G Y r1)=>rd_forward G Y V r1 [98,114,97,110,99,104] 0 (by decide) (by decide) (by decide) hV
   generalize r1.forward [98,114,97,110,99,104] 0=q2 at hq HF;obtain ⟨r2,e2⟩:=q2;by_cases he2:e2=0
   · subst he2
     have hq2:Q=r2.setCell a r2.v.x.here:=hq;have HH:=h_ fun V Y (hV:RRd V G Y r2)=>rd_here G Y V r2 hV
     generalize r2.v.x.here=hh at HH hq2;have HS:=h_ fun V Y (hV:RRd V G Y r2)=>rd_setCell G Y V r2 a hh hV
     rw [← hq2] at HS;clear h hq hq2
     go_enter Tryz.func229,Tryz.ntmps229
     go_wp2_with fail;refine (HC.out).mono ?_;rintro e w1 ⟨rfl,X1,r1,k1⟩;have R1:=h_ r1;have E1:=h_ (E0.out.trans k1);clear r1 k1
     skip
     go_wp2_with fail;refine (HF.out _ _ R1.out).mono ?_;rintro e w2 ⟨rfl,X2,r2,k2⟩;have R2:=h_ r2;have E2:=h_ (E1.out.trans k2);clear r2 k2
     skip
     go_wp2_with fail;have o0:=R2.out.o0;have v0:=R2.out.v0;have vs:=R2.out.vs
     go_region_held3 (fun w'=>w'.cell? ⟨G.ob,0,none⟩=some (.pointer (some ⟨G.K.mb,0,none⟩))∧w'.cell? ⟨G.K.mb,0,none⟩=some (.pointer (some ⟨G.K.s,0,none⟩))∧w'.cell? ⟨G.K.s,0,none⟩=some (.pointer (some ⟨G.K.b,0,none⟩)))
      (first | go_keep | exact ⟨t0,tv,ts⟩)
      (first
        | (go_at_call 35;refine (HH.out _ _ (R2.out.keeps0 (Keeps.drew _ _))).mono ?_;rintro e w9 ⟨rfl,rfl⟩;dsimp only)
        | (go_at_call 85;refine (HS.out _ _ (R2.out.keeps0 (Keeps.drew _ _))).mono ?_;rintro e w3 ⟨rfl,X3,r3,k3⟩;dsimp only;have t0:=r3.o0;have tv:=r3.v0;have ts:=r3.vs))
     have R3:=h_ r3;have E3:=h_ (E2.out.trans ((Evo.of0 (kd_ w2)).trans k3));clear r3 k3
     try clear t0
     try clear tv
     try clear ts
     try clear o0;try clear v0;try clear vs
     go_wp2_with fail;go_ret
     exact ⟨rfl,_,R3.out,E3.out⟩
   · have hq2:Q=(r2,e2):=by rw [hq];unfold Rd.bind;rw [if_pos (by simpa using he2)]
     have HQ:=h_ hq2;have d1:(e2 == 0)=false:=by simp [he2]
     clear h hq hq2 he2
     go_enter Tryz.func229,Tryz.ntmps229
     go_wp2_with fail;refine (HC.out).mono ?_;rintro e w1 ⟨rfl,X1,r1,k1⟩;have R1:=h_ r1;have E1:=h_ (E0.out.trans k1);clear r1 k1
     try clear o0;try clear v0;try clear vs
     go_wp2_with fail;refine (HF.out _ _ R1.out).mono ?_;rintro e w2 ⟨rfl,X2,r2,k2⟩;have R2:=h_ r2;have E2:=h_ (E1.out.trans k2);clear r2 k2
     try clear o0;try clear v0;try clear vs
     go_wp2_with fail;go_ret
     rw [HQ.out];exact ⟨rfl,_,R2.out,E2.out⟩
 · rw [if_pos (by simpa using he)] at hq
   have HQ:=h_ hq;have d1:(e1 == 0)=false:=by simp [he]
   clear h hq he
   go_enter Tryz.func229,Tryz.ntmps229
   go_wp2_with fail;refine (HC.out).mono ?_;rintro e w1 ⟨rfl,X1,r1,k1⟩;have R1:=h_ r1;have E1:=h_ (E0.out.trans k1);clear r1 k1
   try clear o0;try clear v0;try clear vs
   go_wp2_with fail;go_ret
   rw [HQ.out];exact ⟨rfl,_,R1.out,E1.out⟩
theorem wd_repeat:WdOk 238 Rd.repeat_:=by
 intro G X w r h;have hq:r.repeat_=if (r.mclose 2).2.2≠0 then ((r.mclose 2).1,(r.mclose 2).2.2) else Rd.bind ((r.mclose 2).1.back [98,114,97,110,99,104] 1) fun u=>u.setCell (r.mclose 2).2.1 u.v.x.here:=rfl
 generalize r.repeat_=Q at hq ⊢;have HC:=h_ (rd_mclose G X w r 2 h);have R0:=h_ h;have E0:=h_ (Evo.refl w X);generalize r.mclose 2=q1 at hq HC;obtain ⟨r1,a,e1⟩:=q1;unfold PRv at HC;simp only at hq HC
 by_cases he:e1=0
 · subst he
   rw [if_neg (by simp)] at hq
   have HF:=h_ fun V Y (hV:RRd V G Y r1)=>rd_back_ G Y V r1 [98,114,97,110,99,104] 1 (by decide) hV
   generalize r1.back [98,114,97,110,99,104] 1=q2 at hq HF;obtain ⟨r2,e2⟩:=q2;by_cases he2:e2=0
   · subst he2
     have hq2:Q=r2.setCell a r2.v.x.here:=hq;have HH:=h_ fun V Y (hV:RRd V G Y r2)=>rd_here G Y V r2 hV
     generalize r2.v.x.here=hh at HH hq2;have HS:=h_ fun V Y (hV:RRd V G Y r2)=>rd_setCell G Y V r2 a hh hV
     rw [← hq2] at HS;clear h hq hq2
     go_enter Tryz.func238,Tryz.ntmps238
     go_wp2_with fail;refine (HC.out).mono ?_;rintro e w1 ⟨rfl,X1,r1,k1⟩;have R1:=h_ r1;have E1:=h_ (E0.out.trans k1);clear r1 k1
     skip
     go_wp2_with fail;refine (HF.out _ _ R1.out).mono ?_;rintro e w2 ⟨rfl,X2,r2,k2⟩;have R2:=h_ r2;have E2:=h_ (E1.out.trans k2);clear r2 k2
     skip
     go_wp2_with fail;have o0:=R2.out.o0;have v0:=R2.out.v0;have vs:=R2.out.vs
     go_region_held3 (fun w'=>w'.cell? ⟨G.ob,0,none⟩=some (.pointer (some ⟨G.K.mb,0,none⟩))∧w'.cell? ⟨G.K.mb,0,none⟩=some (.pointer (some ⟨G.K.s,0,none⟩))∧w'.cell? ⟨G.K.s,0,none⟩=some (.pointer (some ⟨G.K.b,0,none⟩)))
      (first | go_keep | exact ⟨t0,tv,ts⟩)
      (first
        | (go_at_call 35;refine (HH.out _ _ (R2.out.keeps0 (Keeps.drew _ _))).mono ?_;rintro e w9 ⟨rfl,rfl⟩;dsimp only)
        | (go_at_call 85;refine (HS.out _ _ (R2.out.keeps0 (Keeps.drew _ _))).mono ?_;rintro e w3 ⟨rfl,X3,r3,k3⟩;dsimp only;have t0:=r3.o0;have tv:=r3.v0;have ts:=r3.vs))
     have R3:=h_ r3;have E3:=h_ (E2.out.trans ((Evo.of0 (kd_ w2)).trans k3));clear r3 k3
     try clear t0
     try clear tv
     try clear ts
     try clear o0;try clear v0;try clear vs
     go_wp2_with fail;go_ret
     exact ⟨rfl,_,R3.out,E3.out⟩
   · have hq2:Q=(r2,e2):=by rw [hq];unfold Rd.bind;rw [if_pos (by simpa using he2)]
     have HQ:=h_ hq2;have d1:(e2 == 0)=false:=by simp [he2]
     clear h hq hq2 he2
     go_enter Tryz.func238,Tryz.ntmps238
     go_wp2_with fail;refine (HC.out).mono ?_;rintro e w1 ⟨rfl,X1,r1,k1⟩;have R1:=h_ r1;have E1:=h_ (E0.out.trans k1);clear r1 k1
     try clear o0;try clear v0;try clear vs
     go_wp2_with fail;refine (HF.out _ _ R1.out).mono ?_;rintro e w2 ⟨rfl,X2,r2,k2⟩;have R2:=h_ r2;have E2:=h_ (E1.out.trans k2);clear r2 k2
     try clear o0;try clear v0;try clear vs
     go_wp2_with fail;go_ret
     rw [HQ.out];exact ⟨rfl,_,R2.out,E2.out⟩
 · rw [if_pos (by simpa using he)] at hq
   have HQ:=h_ hq;have d1:(e1 == 0)=false:=by simp [he]
   clear h hq he
   go_enter Tryz.func238,Tryz.ntmps238
   go_wp2_with fail;refine (HC.out).mono ?_;rintro e w1 ⟨rfl,X1,r1,k1⟩;have R1:=h_ r1;have E1:=h_ (E0.out.trans k1);clear r1 k1
   try clear o0;try clear v0;try clear vs
   go_wp2_with fail;go_ret
   rw [HQ.out];exact ⟨rfl,_,R1.out,E1.out⟩
theorem wd_do:WdOk 239 Rd.do_:=by
 intro G X w r h;have hq:r.do_=Rd.bind (r.compile [40,100,111,41] []) fun r=>r.mopen 3 r.v.x.here:=rfl
 generalize r.do_=Q at hq ⊢;have HC:=h_ (rd_compile0 G X w r [40,100,111,41] (by decide) h)
 have R0:=h_ h;have E0:=h_ (Evo.refl w X);generalize r.compile [40,100,111,41] []=q1 at hq HC;obtain ⟨r1,e1⟩:=q1;by_cases he:e1=0
 · subst he
   have hq1:Q=r1.mopen 3 r1.v.x.here:=hq;have HH:=h_ fun V Y (hV:RRd V G Y r1)=>rd_here G Y V r1 hV
   generalize r1.v.x.here=hh at HH hq1;have HO:=h_ fun V Y (hV:RRd V G Y r1)=>rd_mopen G Y V r1 3 hh (by decide) (by decide) hV
   rw [← hq1] at HO;clear h hq hq1
   go_enter Tryz.func239,Tryz.ntmps239
   go_wp2_with fail;refine (HC.out).mono ?_;rintro e w1 ⟨rfl,X1,r1,k1⟩;have R1:=h_ r1;have E1:=h_ (E0.out.trans k1);clear r1 k1
   skip
   go_wp2_with fail;have o0:=R1.out.o0;have v0:=R1.out.v0
   go_region_held3 (fun w'=>w'.cell? ⟨G.ob,0,none⟩=some (.pointer (some ⟨G.K.mb,0,none⟩))∧w'.cell? ⟨G.K.mb,0,none⟩=some (.pointer (some ⟨G.K.s,0,none⟩)))
    (first | go_keep | exact ⟨t0,tv⟩)
    (first
      | (go_at_call 35;refine (HH.out _ _ (R1.out.keeps0 (Keeps.drew _ _))).mono ?_;rintro e w9 ⟨rfl,rfl⟩;dsimp only)
      | (go_at_call 233;refine (HO.out _ _ (R1.out.keeps0 (Keeps.drew _ _))).mono ?_;rintro e w2 ⟨rfl,X2,r2,k2⟩;dsimp only;have t0:=r2.o0;have tv:=r2.v0))
   have R2:=h_ r2;have E2:=h_ (E1.out.trans ((Evo.of0 (kd_ w1)).trans k2));clear r2 k2
   try clear t0
   try clear tv
   try clear ts
   try clear o0;try clear v0
   go_wp2_with fail;go_ret
   exact ⟨rfl,_,R2.out,E2.out⟩
 · have hq1:Q=(r1,e1):=by rw [hq];unfold Rd.bind;rw [if_pos (by simpa using he)]
   have HQ:=h_ hq1;have d1:(e1 == 0)=false:=by simp [he]
   clear h hq hq1 he
   go_enter Tryz.func239,Tryz.ntmps239
   go_wp2_with fail;refine (HC.out).mono ?_;rintro e w1 ⟨rfl,X1,r1,k1⟩;have R1:=h_ r1;have E1:=h_ (E0.out.trans k1);clear r1 k1
   try clear o0;try clear v0
   go_wp2_with fail;go_ret
   rw [HQ.out];exact ⟨rfl,_,R1.out,E1.out⟩
theorem wd_begin:WdOk 232 (fun r=>r.mopen 1 r.v.x.here):=by
 intro G X w r h
 show Calls _ _ _ _ (PR G X w (r.mopen 1 r.v.x.here))
 have HH:=h_ fun V Y (hV:RRd V G Y r)=>rd_here G Y V r hV
 have HO:=h_ fun V Y (hV:RRd V G Y r)=>rd_mopen G Y V r 1 r.v.x.here (by decide) (by decide) hV
 generalize r.v.x.here=hh at HH HO ⊢;generalize r.mopen 1 hh=Q at HO ⊢;have R0:=h_ h;have E0:=h_ (Evo.refl w X);have o0:=R0.out.o0;have v0:=R0.out.v0;clear h
 go_enter Tryz.func232,Tryz.ntmps232
 go_wp2_with fail
 go_region_held3 (fun w'=>w'.cell? ⟨G.ob,0,none⟩=some (.pointer (some ⟨G.K.mb,0,none⟩))∧w'.cell? ⟨G.K.mb,0,none⟩=some (.pointer (some ⟨G.K.s,0,none⟩)))
  (first | go_keep | exact ⟨t0,tv⟩)
  (first
    | (go_at_call 35;refine (HH.out _ _ (R0.out.keeps0 (Keeps.drew _ _))).mono ?_;rintro e w9 ⟨rfl,rfl⟩;dsimp only)
    | (go_at_call 233;refine (HO.out _ _ (R0.out.keeps0 (Keeps.drew _ _))).mono ?_;rintro e w1 ⟨rfl,X1,r1,k1⟩;dsimp only;have t0:=r1.o0;have tv:=r1.v0))
 have R1:=h_ r1;have E1:=h_ (E0.out.trans ((Evo.of0 (kd_ w)).trans k1));clear r1 k1
 try clear t0
 try clear tv
 try clear ts
 try clear o0;try clear v0
 go_wp2_with fail;go_ret
 exact ⟨rfl,_,R1.out,E1.out⟩
theorem wd_if:WdOk 227 (fun r=>r.forward [48,98,114,97,110,99,104] 0):=by
 intro G X w r h
 show Calls _ _ _ _ (PR G X w (r.forward [48,98,114,97,110,99,104] 0))
 have HD:=h_ (rd_forward G X w r [48,98,114,97,110,99,104] 0 (by decide) (by decide) (by decide) h)
 generalize r.forward [48,98,114,97,110,99,104] 0=Q at HD ⊢;have R0:=h_ h;have E0:=h_ (Evo.refl w X);clear h
 go_enter Tryz.func227,Tryz.ntmps227
 go_wp2_with fail;refine (HD.out).mono ?_;rintro e w1 ⟨rfl,X1,r1,k1⟩;have R1:=h_ r1;have E1:=h_ (E0.out.trans k1);clear r1 k1
 skip
 go_wp2_with fail;go_ret
 exact ⟨rfl,_,R1.out,E1.out⟩
theorem wd_while:WdOk 237 (fun r=>r.forward [48,98,114,97,110,99,104] 2):=by
 intro G X w r h
 show Calls _ _ _ _ (PR G X w (r.forward [48,98,114,97,110,99,104] 2))
 have HD:=h_ (rd_forward G X w r [48,98,114,97,110,99,104] 2 (by decide) (by decide) (by decide) h)
 generalize r.forward [48,98,114,97,110,99,104] 2=Q at HD ⊢;have R0:=h_ h;have E0:=h_ (Evo.refl w X);clear h
 go_enter Tryz.func237,Tryz.ntmps237
 go_wp2_with fail;refine (HD.out).mono ?_;rintro e w1 ⟨rfl,X1,r1,k1⟩;have R1:=h_ r1;have E1:=h_ (E0.out.trans k1);clear r1 k1
 skip
 go_wp2_with fail;go_ret
 exact ⟨rfl,_,R1.out,E1.out⟩
theorem wd_then:WdOk 230 (fun r=>r.patch 0):=by
 intro G X w r h
 show Calls _ _ _ _ (PR G X w (r.patch 0))
 have HD:=h_ (rd_patch G X w r 0 h);generalize r.patch 0=Q at HD ⊢;have R0:=h_ h;have E0:=h_ (Evo.refl w X);clear h
 go_enter Tryz.func230,Tryz.ntmps230
 go_wp2_with fail;refine (HD.out).mono ?_;rintro e w1 ⟨rfl,X1,r1,k1⟩;have R1:=h_ r1;have E1:=h_ (E0.out.trans k1);clear r1 k1
 skip
 go_wp2_with fail;go_ret
 exact ⟨rfl,_,R1.out,E1.out⟩
theorem wd_again:WdOk 234 (fun r=>r.back [98,114,97,110,99,104] 1):=by
 intro G X w r h
 show Calls _ _ _ _ (PR G X w (r.back [98,114,97,110,99,104] 1))
 have HD:=h_ (rd_back_ G X w r [98,114,97,110,99,104] 1 (by decide) h)
 generalize r.back [98,114,97,110,99,104] 1=Q at HD ⊢;have R0:=h_ h;have E0:=h_ (Evo.refl w X);clear h
 go_enter Tryz.func234,Tryz.ntmps234
 go_wp2_with fail;refine (HD.out).mono ?_;rintro e w1 ⟨rfl,X1,r1,k1⟩;have R1:=h_ r1;have E1:=h_ (E0.out.trans k1);clear r1 k1
 skip
 go_wp2_with fail;go_ret
 exact ⟨rfl,_,R1.out,E1.out⟩
theorem wd_until:WdOk 236 (fun r=>r.back [48,98,114,97,110,99,104] 1):=by
 intro G X w r h
 show Calls _ _ _ _ (PR G X w (r.back [48,98,114,97,110,99,104] 1))
 have HD:=h_ (rd_back_ G X w r [48,98,114,97,110,99,104] 1 (by decide) h)
 generalize r.back [48,98,114,97,110,99,104] 1=Q at HD ⊢;have R0:=h_ h;have E0:=h_ (Evo.refl w X);clear h
 go_enter Tryz.func236,Tryz.ntmps236
 go_wp2_with fail;refine (HD.out).mono ?_;rintro e w1 ⟨rfl,X1,r1,k1⟩;have R1:=h_ r1;have E1:=h_ (E0.out.trans k1);clear r1 k1
 skip
 go_wp2_with fail;go_ret
 exact ⟨rfl,_,R1.out,E1.out⟩
theorem wd_loop:WdOk 240 (fun r=>r.back [40,108,111,111,112,41] 3):=by
 intro G X w r h
 show Calls _ _ _ _ (PR G X w (r.back [40,108,111,111,112,41] 3))
 have HD:=h_ (rd_back_ G X w r [40,108,111,111,112,41] 3 (by decide) h)
 generalize r.back [40,108,111,111,112,41] 3=Q at HD ⊢;have R0:=h_ h;have E0:=h_ (Evo.refl w X);clear h
 go_enter Tryz.func240,Tryz.ntmps240
 go_wp2_with fail;refine (HD.out).mono ?_;rintro e w1 ⟨rfl,X1,r1,k1⟩;have R1:=h_ r1;have E1:=h_ (E0.out.trans k1);clear r1 k1
 skip
 go_wp2_with fail;go_ret
 exact ⟨rfl,_,R1.out,E1.out⟩
theorem wd_ploop:WdOk 241 (fun r=>r.back [40,43,108,111,111,112,41] 3):=by
 intro G X w r h
 show Calls _ _ _ _ (PR G X w (r.back [40,43,108,111,111,112,41] 3))
 have HD:=h_ (rd_back_ G X w r [40,43,108,111,111,112,41] 3 (by decide) h)
 generalize r.back [40,43,108,111,111,112,41] 3=Q at HD ⊢;have R0:=h_ h;have E0:=h_ (Evo.refl w X);clear h
 go_enter Tryz.func241,Tryz.ntmps241
 go_wp2_with fail;refine (HD.out).mono ?_;rintro e w1 ⟨rfl,X1,r1,k1⟩;have R1:=h_ r1;have E1:=h_ (E0.out.trans k1);clear r1 k1
 skip
 go_wp2_with fail;go_ret
 exact ⟨rfl,_,R1.out,E1.out⟩
def Gl (w:World) (X:Nat→Prop):Prop:=Glo w∧∀ g,g<4→¬ X g
theorem Gl.evo {w w':World} {X X':Nat→Prop} (h:Gl w X) (E:Evo w X w' X'):Gl w' X' :=
 ⟨h.1.keeps E.k h.2,fun g hg e=>(E.n g e).elim (h.2 g hg) (fun e=>by have:=h.1.lt;omega)⟩
theorem Gl.most {w:World} {X:Nat→Prop} (h:Gl w X):∃ m,w.cell? ⟨1,0,none⟩=some (.int .i64 m):=by
 obtain ⟨m,t,f,h1⟩:=h.1.most;exact ⟨m,cell_of h1 rfl⟩
def WdOkG (f:Nat) (F:Rd→Rd × Int):Prop:=∀ (G:Gk) (X:Nat→Prop) (w:World) (r:Rd),Gl w X→RRd w G X r→Calls Tryz.prog f #[.pointer (some ⟨G.ob,0,none⟩)] w (PR G X w (F r))
theorem WdOk.g {f:Nat} {F:Rd→Rd × Int} (h:WdOk f F):WdOkG f F:=fun G X w r _ hr=>h G X w r hr
section
variable (G:Gk) (X:Nat→Prop) (w:World) (r:Rd)
theorem rd_parse (c:UInt8) (hg:Gl w X) (h:RRd w G X r):∃ q,w.cell? ⟨G.ob,1,none⟩=some (.pointer (some ⟨q,0,none⟩))∧Calls Tryz.prog 243 #[.pointer (some ⟨q,0,none⟩),.int .u8 (c.toNat:Int)] w
 fun e w'=>e=.returned (.tuple #[.string ⟨(r.parsedT c).toArray⟩,.bool (Src.parse r.src r.at_ c).2.1])∧∃ X',RRd w' G X' (r.parsed c)∧Evo w X w' X':=by
 obtain ⟨q,hq,hs,hx,hr⟩:=h.read;obtain ⟨m,hm⟩:=hg.most;exact ⟨q,hq,(src_parse w q r.src r.at_ c m hs hm (by have:=h.ok.src;omega)).mono fun _ _ ⟨he,h1,k⟩=>⟨he,X,hr _ _ h1 k,RRd.evoq hx k⟩⟩
theorem rd_skip (h:RRd w G X r):∃ q,w.cell? ⟨G.ob,1,none⟩=some (.pointer (some ⟨q,0,none⟩))∧Calls Tryz.prog 87 #[.pointer (some ⟨q,0,none⟩)] w (PRu G X w r.skip):=by
 obtain ⟨q,hq,hs,hx,hr⟩:=h.read;exact ⟨q,hq,(src_skip w q r.src r.at_ hs).mono fun _ _ ⟨he,h1,k⟩=>⟨he,X,hr _ _ h1 k,RRd.evoq hx k⟩⟩
theorem rd_chars (t:List UInt8) (ht:t.length≤4611686018427387904) (h:RRd w G X r):Calls Tryz.prog 151 #[.pointer (some ⟨G.K.s,0,none⟩),.string ⟨t.toArray⟩] w (PR G X w (r.vm (r.v.setSp (r.v.x.chars t)))) :=
 (fv_chars G.K w r.v t ht h.fv).mono fun _ _ ⟨he,hv,k⟩=>⟨he,X,h.vm hv k,h.evo k⟩
theorem rd_align (h:RRd w G X r):Calls Tryz.prog 147 #[.pointer (some ⟨G.K.s,0,none⟩)] w (PR G X w (r.vm (r.v.setSp r.v.x.align))) :=
 (fv_align G.K w r.v h.fv).mono fun _ _ ⟨he,hv,k⟩=>⟨he,X,h.vm hv k,h.evo k⟩
theorem rd_store (t:List UInt8) (ht:t.length≤4611686018427387904) (h:RRd w G X r):Calls Tryz.prog 374 #[.pointer (some ⟨G.ob,0,none⟩),.string ⟨t.toArray⟩] w (PRv (Value.int .i64) G X w (r.store t)):=by
 have hq:r.store t=if (r.vm (r.v.setSp (r.v.x.chars t))).2≠0 then ((r.vm (r.v.setSp (r.v.x.chars t))).1,0,(r.vm (r.v.setSp (r.v.x.chars t))).2)
  else (((r.vm (r.v.setSp (r.v.x.chars t))).1.vm ((r.vm (r.v.setSp (r.v.x.chars t))).1.v.setSp (r.vm (r.v.setSp (r.v.x.chars t))).1.v.x.align)).1,r.v.x.here,((r.vm (r.v.setSp (r.v.x.chars t))).1.vm ((r.vm (r.v.setSp (r.v.x.chars t))).1.v.setSp (r.vm (r.v.setSp (r.v.x.chars t))).1.v.x.align)).2):=rfl
 generalize r.store t=Q at hq ⊢;have HH:=h_ (rd_here G X w r h);have HC:=h_ (rd_chars G X w r t ht h);generalize r.v.x.here=hh at HH hq;generalize r.vm (r.v.setSp (r.v.x.chars t))=q1 at hq HC;obtain ⟨r1,e1⟩:=q1;simp only at hq
 have R0:=h_ h;have E0:=h_ (Evo.refl w X);have o0:=R0.out.o0;have v0:=R0.out.v0;by_cases he:e1=0
 · subst he
   rw [if_neg (by simp)] at hq
   have HA:=h_ fun V Y (hV:RRd V G Y r1)=>rd_align G Y V r1 hV
   generalize r1.vm (r1.v.setSp r1.v.x.align)=q2 at hq HA;obtain ⟨r2,e2⟩:=q2;have HQ:=h_ hq;clear h hq
   go_enter Tryz.func374,Tryz.ntmps374
   go_wp2_with fail;refine (HH.out).mono ?_;rintro e w' ⟨rfl,rfl⟩;go_wp2_with fail;refine (HC.out).mono ?_;rintro e w1 ⟨rfl,X1,r1,k1⟩;have R1:=h_ r1;have E1:=h_ (E0.out.trans k1);clear r1 k1
   try clear o0;try clear v0
   have o0:=R1.out.o0;have v0:=R1.out.v0;go_wp2_with fail;refine (HA.out _ _ R1.out).mono ?_;rintro e w2 ⟨rfl,X2,r2,k2⟩;have R2:=h_ r2;have E2:=h_ (E1.out.trans k2);clear r2 k2
   try clear o0;try clear v0
   go_wp2_with fail;go_ret2
   rw [HQ.out];exact ⟨rfl,_,R2.out,E2.out⟩
 · rw [if_pos (by simpa using he)] at hq
   have HQ:=h_ hq;have d1:(e1 == 0)=false:=by simp [he]
   clear h hq he
   go_enter Tryz.func374,Tryz.ntmps374
   go_wp2_with fail;refine (HH.out).mono ?_;rintro e w' ⟨rfl,rfl⟩;go_wp2_with fail;refine (HC.out).mono ?_;rintro e w1 ⟨rfl,X1,r1,k1⟩;have R1:=h_ r1;have E1:=h_ (E0.out.trans k1);clear r1 k1
   try clear o0;try clear v0
   go_wp2_with fail;go_ret2
   rw [HQ.out];exact ⟨rfl,_,R1.out,E1.out⟩
end
theorem wd_char:WdOk 247 Rd.char:=by
 intro G X w r h
 have hq:r.char=match r.nextW with
  | []=>(r.next,-16)
  | c :: _=>r.next.literal [(c.toNat:Int)]:=rfl
 generalize r.char=Q at hq ⊢;obtain ⟨q,o1,hw⟩:=rd_word G X w r h;have HW:=h_ hw;have R0:=h_ h;have E0:=h_ (Evo.refl w X);generalize r.nextW=s at HW hq;clear h hw
 cases s with
 | nil =>
  have HQ:=h_ (show Q=(r.next,-16) from hq)
  clear hq
  go_enter Tryz.func247,Tryz.ntmps247
  go_wp2_with fail;refine (HW.out).mono ?_;rintro e w1 ⟨rfl,X1,r1,k1⟩;have R1:=h_ r1;have E1:=h_ (E0.out.trans k1);clear r1 k1
  try clear o1
  go_wp2_with fail;go_ret
  rw [HQ.out];exact ⟨rfl,_,R1.out,E1.out⟩
 | cons c t =>
  have hq1:Q=r.next.literal [(c.toNat:Int)]:=hq;have HL:=h_ fun V Y (hV:RRd V G Y r.next)=>rd_literal1 G Y V r.next (c.toNat:Int) hV
  rw [← hq1] at HL;have h0:(c :: t).length=t.length+1:=rfl;have hw2:wrap64 (c.toNat:Int)=c.toNat:=IntWalk.wrap64_in _ (by have:=c.toNat_lt;omega)
  clear hq hq1
  go_enter Tryz.func247,Tryz.ntmps247
  go_wp2_with fail;refine (HW.out).mono ?_;rintro e w1 ⟨rfl,X1,r1,k1⟩;have R1:=h_ r1;have E1:=h_ (E0.out.trans k1);clear r1 k1
  try clear o1
  go_wp2_with fail
  change Calls _ _ _ (w1.alloc (.cells #[.int .i64 (wrap64 (c.toNat:Int))] 2)) _
  rw [hw2];refine (HL.out _ _ R1.out).mono ?_;rintro e w2 ⟨rfl,X2,r2,k2⟩;have R2:=h_ r2;have E2:=h_ (E1.out.trans k2);clear r2 k2
  try clear o1
  go_wp2_with fail;go_ret
  exact ⟨rfl,_,R2.out,E2.out⟩
theorem parse_len (s:List UInt8) (n:Nat) (c:UInt8) (hn:n≤s.length):(Src.parse s n c).1.length≤s.length:=by
 have h:=Src.line_len s n hn;unfold Src.parse;split
 · simp only;omega
 · simp only [List.length_take];omega
theorem RRd.parsed_len {G:Gk} {X:Nat→Prop} {w:World} {r:Rd} (h:RRd w G X r) (c:UInt8):(r.parsedT c).length≤1000000000:=by
 obtain ⟨D,h1,_⟩:=h;have:=parse_len r.src r.at_ c h1.src.le;have:=h1.ok.src;unfold Rd.parsedT;omega
theorem rd_text (G:Gk) (X:Nat→Prop) (w:World) (r:Rd) (hg:Gl w X) (h:RRd w G X r):Calls Tryz.prog 245 #[.pointer (some ⟨G.ob,0,none⟩)] w (PR G X w r.text):=by
 have hq:r.text=if (r.parsed 34).comp then (r.parsed 34).textC (r.parsedT 34) else (r.parsed 34).textP (r.parsedT 34):=rfl
 generalize r.text=Q at hq ⊢;obtain ⟨q,o1,hp⟩:=rd_parse G X w r 34 hg h;have HP:=h_ hp;have hl:=h.parsed_len 34;have h34:((34:UInt8).toNat:Int)=34:=rfl;rw [h34] at HP;have R0:=h_ h;have E0:=h_ (Evo.refl w X);generalize r.parsedT 34=t at hq HP hl;generalize (Src.parse r.src r.at_ 34).2.1=ok at HP;generalize r.parsed 34=r1 at hq HP
 cases hc:r1.comp with
 | false =>
  have hq1:Q=if (r1.store t).2.2≠0 then ((r1.store t).1,(r1.store t).2.2) else (r1.store t).1.push [(r1.store t).2.1,t.length]:=by rw [hq,hc];rfl
  have HS:=h_ fun V Y (hV:RRd V G Y r1)=>rd_store G Y V r1 t (by omega) hV
  have HCO:=h_ hc;generalize r1.store t=q2 at hq1 HS;obtain ⟨r2,a,e2⟩:=q2;unfold PRv at HS;simp only at hq1 HS
  by_cases he:e2=0
  · subst he
    rw [if_neg (by simp)] at hq1
    have HPU:=h_ fun V Y (hV:RRd V G Y r2)=>rd_push2 G Y V r2 a t.length hV
    rw [← hq1] at HPU;clear h hp hq hq1 hc hg h34
    go_enter Tryz.func245,Tryz.ntmps245
    go_wp2_with fail;refine (HP.out).mono ?_;rintro e w1 ⟨rfl,X1,r1,k1⟩;have R1:=h_ r1;have E1:=h_ (E0.out.trans k1);clear r1 k1
    try clear o1
    have o4:=R1.out.o4;rw [HCO.out] at o4;go_wp2_with fail;refine (HS.out _ _ R1.out).mono ?_;rintro e w2 ⟨rfl,X2,r2,k2⟩;have R2:=h_ r2;have E2:=h_ (E1.out.trans k2);clear r2 k2
    try clear o1;try clear o4
    have o0:=R2.out.o0;have v1:=R2.out.v1;go_wp2_with fail;refine (HPU.out _ _ R2.out).mono ?_;rintro e w3 ⟨rfl,X3,r3,k3⟩;have R3:=h_ r3;have E3:=h_ (E2.out.trans k3);clear r3 k3
    try clear o0;try clear o1;try clear o4;try clear v1
    go_wp2_with fail;go_ret
    exact ⟨rfl,_,R3.out,E3.out⟩
  · rw [if_pos (by simpa using he)] at hq1
    have HQ:=h_ hq1;have d1:(e2 == 0)=false:=by simp [he]
    clear h hp hq hq1 hc hg h34 he
    go_enter Tryz.func245,Tryz.ntmps245
    go_wp2_with fail;refine (HP.out).mono ?_;rintro e w1 ⟨rfl,X1,r1,k1⟩;have R1:=h_ r1;have E1:=h_ (E0.out.trans k1);clear r1 k1
    try clear o0;try clear o1;try clear o4;try clear v1
    have o4:=R1.out.o4;rw [HCO.out] at o4;go_wp2_with fail;refine (HS.out _ _ R1.out).mono ?_;rintro e w2 ⟨rfl,X2,r2,k2⟩;have R2:=h_ r2;have E2:=h_ (E1.out.trans k2);clear r2 k2
    try clear o0;try clear o1;try clear o4;try clear v1
    go_wp2_with fail;go_ret
    rw [HQ.out];exact ⟨rfl,_,R2.out,E2.out⟩
 | true =>
  have hq1:Q=Rd.bind (r1.forward [98,114,97,110,99,104] 0) fun u=>if (u.store t).2.2≠0 then ((u.store t).1,(u.store t).2.2) else Rd.bind ((u.store t).1.patch 0) fun v=>v.literal [(u.store t).2.1,t.length]:=by rw [hq,hc];rfl
  have HCO:=h_ hc;have HF:=h_ fun V Y (hV:RRd V G Y r1)=>rd_forward G Y V r1 [98,114,97,110,99,104] 0 (by decide) (by decide) (by decide) hV
  generalize r1.forward [98,114,97,110,99,104] 0=q2 at hq1 HF;obtain ⟨r2,e2⟩:=q2;by_cases he:e2=0
  · subst he
    have hq2:Q=if (r2.store t).2.2≠0 then ((r2.store t).1,(r2.store t).2.2) else Rd.bind ((r2.store t).1.patch 0) fun v=>v.literal [(r2.store t).2.1,t.length]:=hq1
    have HS:=h_ fun V Y (hV:RRd V G Y r2)=>rd_store G Y V r2 t (by omega) hV
    generalize r2.store t=q3 at hq2 HS;obtain ⟨r3,a,e3⟩:=q3;unfold PRv at HS;simp only at hq2 HS
    by_cases he3:e3=0
    · subst he3
      rw [if_neg (by simp)] at hq2
      have HPA:=h_ fun V Y (hV:RRd V G Y r3)=>rd_patch G Y V r3 0 hV
      generalize r3.patch 0=q4 at hq2 HPA;obtain ⟨r4,e4⟩:=q4;by_cases he4:e4=0
      · subst he4
        have hq3:Q=r4.literal [a,t.length]:=hq2;have HL:=h_ fun V Y (hV:RRd V G Y r4)=>rd_literal2 G Y V r4 a t.length hV
        rw [← hq3] at HL;clear h hp hq hq1 hq2 hq3 hc hg h34
        go_enter Tryz.func245,Tryz.ntmps245
        go_wp2_with fail;refine (HP.out).mono ?_;rintro e w1 ⟨rfl,X1,r1,k1⟩;have R1:=h_ r1;have E1:=h_ (E0.out.trans k1);clear r1 k1
        try clear o0;try clear o1;try clear o4;try clear v1
        have o4:=R1.out.o4;rw [HCO.out] at o4;go_wp2_with fail;refine (HF.out _ _ R1.out).mono ?_;rintro e w2 ⟨rfl,X2,r2,k2⟩;have R2:=h_ r2;have E2:=h_ (E1.out.trans k2);clear r2 k2
        try clear o0;try clear o1;try clear o4;try clear v1
        go_wp2_with fail;refine (HS.out _ _ R2.out).mono ?_;rintro e w3 ⟨rfl,X3,r3,k3⟩;have R3:=h_ r3;have E3:=h_ (E2.out.trans k3);clear r3 k3
        try clear o0;try clear o1;try clear o4;try clear v1
        go_wp2_with fail;refine (HPA.out _ _ R3.out).mono ?_;rintro e w4 ⟨rfl,X4,r4,k4⟩;have R4:=h_ r4;have E4:=h_ (E3.out.trans k4);clear r4 k4
        try clear o0;try clear o1;try clear o4;try clear v1
        go_wp2_with fail;refine (HL.out _ _ R4.out).mono ?_;rintro e w5 ⟨rfl,X5,r5,k5⟩;have R5:=h_ r5;have E5:=h_ (E4.out.trans k5);clear r5 k5
        try clear o0;try clear o1;try clear o4;try clear v1
        go_wp2_with fail;go_ret
        exact ⟨rfl,_,R5.out,E5.out⟩
      · have hq3:Q=(r4,e4):=by rw [hq2];unfold Rd.bind;rw [if_pos (by simpa using he4)]
        have HQ:=h_ hq3;have d1:(e4 == 0)=false:=by simp [he4]
        clear h hp hq hq1 hq2 hq3 hc hg h34 he4
        go_enter Tryz.func245,Tryz.ntmps245
        go_wp2_with fail;refine (HP.out).mono ?_;rintro e w1 ⟨rfl,X1,r1,k1⟩;have R1:=h_ r1;have E1:=h_ (E0.out.trans k1);clear r1 k1
        try clear o0;try clear o1;try clear o4;try clear v1
        have o4:=R1.out.o4;rw [HCO.out] at o4;go_wp2_with fail;refine (HF.out _ _ R1.out).mono ?_;rintro e w2 ⟨rfl,X2,r2,k2⟩;have R2:=h_ r2;have E2:=h_ (E1.out.trans k2);clear r2 k2
        try clear o0;try clear o1;try clear o4;try clear v1
        go_wp2_with fail;refine (HS.out _ _ R2.out).mono ?_;rintro e w3 ⟨rfl,X3,r3,k3⟩;have R3:=h_ r3;have E3:=h_ (E2.out.trans k3);clear r3 k3
        try clear o0;try clear o1;try clear o4;try clear v1
        go_wp2_with fail;refine (HPA.out _ _ R3.out).mono ?_;rintro e w4 ⟨rfl,X4,r4,k4⟩;have R4:=h_ r4;have E4:=h_ (E3.out.trans k4);clear r4 k4
        try clear o0;try clear o1;try clear o4;try clear v1
        go_wp2_with fail;go_ret
        rw [HQ.out];exact ⟨rfl,_,R4.out,E4.out⟩
    · rw [if_pos (by simpa using he3)] at hq2
      have HQ:=h_ hq2;have d1:(e3 == 0)=false:=by simp [he3]
      clear h hp hq hq1 hq2 hc hg h34 he3
      go_enter Tryz.func245,Tryz.ntmps245
      go_wp2_with fail;refine (HP.out).mono ?_;rintro e w1 ⟨rfl,X1,r1,k1⟩;have R1:=h_ r1;have E1:=h_ (E0.out.trans k1);clear r1 k1
      try clear o0;try clear o1;try clear o4;try clear v1
      have o4:=R1.out.o4;rw [HCO.out] at o4;go_wp2_with fail;refine (HF.out _ _ R1.out).mono ?_;rintro e w2 ⟨rfl,X2,r2,k2⟩;have R2:=h_ r2;have E2:=h_ (E1.out.trans k2);clear r2 k2
      try clear o0;try clear o1;try clear o4;try clear v1
      go_wp2_with fail;refine (HS.out _ _ R2.out).mono ?_;rintro e w3 ⟨rfl,X3,r3,k3⟩;have R3:=h_ r3;have E3:=h_ (E2.out.trans k3);clear r3 k3
      try clear o0;try clear o1;try clear o4;try clear v1
      go_wp2_with fail;go_ret
      rw [HQ.out];exact ⟨rfl,_,R3.out,E3.out⟩
  · have hq2:Q=(r2,e2):=by rw [hq1];unfold Rd.bind;rw [if_pos (by simpa using he)]
    have HQ:=h_ hq2;have d1:(e2 == 0)=false:=by simp [he]
    clear h hp hq hq1 hq2 hc hg h34 he
    go_enter Tryz.func245,Tryz.ntmps245
    go_wp2_with fail;refine (HP.out).mono ?_;rintro e w1 ⟨rfl,X1,r1,k1⟩;have R1:=h_ r1;have E1:=h_ (E0.out.trans k1);clear r1 k1
    try clear o0;try clear o1;try clear o4;try clear v1
    have o4:=R1.out.o4;rw [HCO.out] at o4;go_wp2_with fail;refine (HF.out _ _ R1.out).mono ?_;rintro e w2 ⟨rfl,X2,r2,k2⟩;have R2:=h_ r2;have E2:=h_ (E1.out.trans k2);clear r2 k2
    try clear o0;try clear o1;try clear o4;try clear v1
    go_wp2_with fail;go_ret
    rw [HQ.out];exact ⟨rfl,_,R2.out,E2.out⟩
theorem wd_text:WdOkG 245 Rd.text:=fun G X w r hg h=>rd_text G X w r hg h
theorem rd_put (G:Gk) (X:Nat→Prop) (w:World) (r:Rd) (t:List UInt8) (ht:t.length≤4611686018427387904) (h:RRd w G X r):Calls Tryz.prog 86 #[.pointer (some ⟨G.K.mb,0,none⟩),.string ⟨t.toArray⟩] w (PRu G X w (r.putO t)) :=
 (fv_put G.K w r.v t h.fv ht).mono fun _ _ ⟨he,hv,k⟩=>⟨he,X,h.vm hv k,h.evo k⟩
theorem wd_say:WdOkG 246 Rd.say:=by
 intro G X w r hg h;have hq:r.say=if r.comp then Rd.bind r.text fun r=>r.compile [116,121,112,101] [] else ((r.parsed 34).putO (r.parsedT 34),0):=rfl
 generalize r.say=Q at hq ⊢;have HT:=h_ (rd_text G X w r hg h);obtain ⟨q,o1,hp⟩:=rd_parse G X w r 34 hg h;have HP:=h_ hp;have hl:=h.parsed_len 34;have h34:((34:UInt8).toNat:Int)=34:=rfl;rw [h34] at HP;have R0:=h_ h;have E0:=h_ (Evo.refl w X);have o4:=R0.out.o4
 cases hc:r.comp with
 | false =>
  rw [hc] at o4;rw [if_neg (by rw [hc];simp)] at hq
  generalize r.parsedT 34=t at hq HP hl;generalize (Src.parse r.src r.at_ 34).2.1=ok at HP;generalize r.parsed 34=r1 at hq HP;have HU:=h_ fun V Y (hV:RRd V G Y r1)=>rd_put G Y V r1 t (by omega) hV
  have HQ:=h_ hq;clear h hp hq hc hg h34 HT
  go_enter Tryz.func246,Tryz.ntmps246
  go_wp2_with fail;refine (HP.out).mono ?_;rintro e w1 ⟨rfl,X1,r1,k1⟩;have R1:=h_ r1;have E1:=h_ (E0.out.trans k1);clear r1 k1
  try clear o1;try clear o4
  have o0:=R1.out.o0;go_wp2_with fail;refine (HU.out _ _ R1.out).mono ?_;rintro e w2 ⟨rfl,X2,r2,k2⟩;have R2:=h_ r2;have E2:=h_ (E1.out.trans k2);clear r2 k2
  try clear o0;try clear o1;try clear o4
  go_wp2_with fail;go_ret
  rw [HQ.out];exact ⟨rfl,_,R2.out,E2.out⟩
 | true =>
  rw [hc] at o4;rw [if_pos hc] at hq;generalize r.text=q1 at hq HT;obtain ⟨r1,e1⟩:=q1;by_cases he:e1=0
  · subst he
    have hq1:Q=r1.compile [116,121,112,101] []:=hq;have HC:=h_ fun V Y (hV:RRd V G Y r1)=>rd_compile0 G Y V r1 [116,121,112,101] (by decide) hV
    rw [← hq1] at HC;clear h hp hq hq1 hc hg h34 HP o1
    go_enter Tryz.func246,Tryz.ntmps246
    go_wp2_with fail;refine (HT.out).mono ?_;rintro e w1 ⟨rfl,X1,r1,k1⟩;have R1:=h_ r1;have E1:=h_ (E0.out.trans k1);clear r1 k1
    try clear o0;try clear o1;try clear o4
    go_wp2_with fail;refine (HC.out _ _ R1.out).mono ?_;rintro e w2 ⟨rfl,X2,r2,k2⟩;have R2:=h_ r2;have E2:=h_ (E1.out.trans k2);clear r2 k2
    try clear o0;try clear o1;try clear o4
    go_wp2_with fail;go_ret
    exact ⟨rfl,_,R2.out,E2.out⟩
  · have hq1:Q=(r1,e1):=by rw [hq];unfold Rd.bind;rw [if_pos (by simpa using he)]
    have HQ:=h_ hq1;have d1:(e1 == 0)=false:=by simp [he]
    clear h hp hq hq1 hc hg h34 HP o1 he
    go_enter Tryz.func246,Tryz.ntmps246
    go_wp2_with fail;refine (HT.out).mono ?_;rintro e w1 ⟨rfl,X1,r1,k1⟩;have R1:=h_ r1;have E1:=h_ (E0.out.trans k1);clear r1 k1
    try clear o0;try clear o1;try clear o4
    go_wp2_with fail;go_ret
    rw [HQ.out];exact ⟨rfl,_,R1.out,E1.out⟩
theorem wd_paren:WdOkG 242 (fun r=>(r.parsed 41,0)):=by
 intro G X w r hg h;obtain ⟨q,o1,hp⟩:=rd_parse G X w r 41 hg h;have h41:((41:UInt8).toNat:Int)=41:=rfl;rw [h41] at hp;have HP:=h_ hp;have R0:=h_ h;have E0:=h_ (Evo.refl w X);clear h hp hg h41
 go_enter Tryz.func242,Tryz.ntmps242
 go_wp2_with fail;refine (HP.out).mono ?_;rintro e w1 ⟨rfl,X1,r1,k1⟩;have R1:=h_ r1;have E1:=h_ (E0.out.trans k1);clear r1 k1
 try clear o1
 go_wp2_with fail;go_ret
 exact ⟨rfl,_,R1.out,E1.out⟩
theorem wd_line:WdOk 244 (fun r=>(r.skip,0)):=by
 intro G X w r h;obtain ⟨q,o1,hp⟩:=rd_skip G X w r h;have HP:=h_ hp;have R0:=h_ h;have E0:=h_ (Evo.refl w X);clear h hp
 go_enter Tryz.func244,Tryz.ntmps244
 go_wp2_with fail;refine (HP.out).mono ?_;rintro e w1 ⟨rfl,X1,r1,k1⟩;have R1:=h_ r1;have E1:=h_ (E0.out.trans k1);clear r1 k1
 try clear o1
 go_wp2_with fail;go_ret
 exact ⟨rfl,_,R1.out,E1.out⟩
theorem wd_tick:WdOk 248 Rd.tick:=by
 intro G X w r h;have hq:r.tick=if r.find.2.2≠0 then (r.find.1,r.find.2.2) else r.find.1.literal [r.find.2.1.xt]:=rfl
 generalize r.tick=Q at hq ⊢;have HF:=h_ (rd_find G X w r h);have R0:=h_ h;have E0:=h_ (Evo.refl w X);generalize r.find=q1 at hq HF;obtain ⟨r1,⟨da,dx,df,dn⟩,e1⟩:=q1;unfold PRv Wd.val at HF;simp only at hq HF
 by_cases he:e1=0
 · subst he
   rw [if_neg (by simp)] at hq
   have HL:=h_ fun V Y (hV:RRd V G Y r1)=>rd_literal1 G Y V r1 dx hV
   rw [← hq] at HL;clear h hq
   go_enter Tryz.func248,Tryz.ntmps248
   go_wp2_with fail;refine (HF.out).mono ?_;rintro e w1 ⟨rfl,X1,r1,k1⟩;have R1:=h_ r1;have E1:=h_ (E0.out.trans k1);clear r1 k1
   skip
   go_upto_if 11 with fail
   have ka:=ka_ w1 (.cells #[.int .i64 da,.int .i64 dx,.int .i64 df,.string ⟨dn.toArray⟩] 53);have HZ:=h_ (halloc_at w1 (.cells #[.int .i64 da,.int .i64 dx,.int .i64 df,.string ⟨dn.toArray⟩] 53));have R2:=h_ (R1.out.keeps0 ka);have E2:=h_ (E1.out.trans (Evo.of0 ka));obtain ⟨g3,hg3⟩:∃ g3,g3=w1.heap.size:=⟨_,rfl⟩;rw [← hg3] at HZ ⊢;generalize w1.alloc (.cells #[.int .i64 da,.int .i64 dx,.int .i64 df,.string ⟨dn.toArray⟩] 53)=w2 at HZ R2 E2 ⊢;have y1:w2.cell? ⟨g3,1,none⟩=some (.int .i64 dx):=cell_of HZ.out rfl;clear ka hg3;go_wp2_with fail;refine (HL.out _ _ R2.out).mono ?_;rintro e w3 ⟨rfl,X3,r3,k3⟩;have R3:=h_ r3;have E3:=h_ (E2.out.trans k3);clear r3 k3
   skip
   go_wp2_with fail;go_ret
   exact ⟨rfl,_,R3.out,E3.out⟩
 · rw [if_pos (by simpa using he)] at hq
   have HQ:=h_ hq;have d1:(e1 == 0)=false:=by simp [he]
   clear h hq he
   go_enter Tryz.func248,Tryz.ntmps248
   go_wp2_with fail;refine (HF.out).mono ?_;rintro e w1 ⟨rfl,X1,r1,k1⟩;have R1:=h_ r1;have E1:=h_ (E0.out.trans k1);clear r1 k1
   skip
   have R2:=h_ (R1.out.keeps0 (ka_ w1 (.cells #[.int .i64 da,.int .i64 dx,.int .i64 df,.string ⟨dn.toArray⟩] 53)));have E2:=h_ (E1.out.trans (Evo.of0 (ka_ w1 (.cells #[.int .i64 da,.int .i64 dx,.int .i64 df,.string ⟨dn.toArray⟩] 53))));go_wp2_with fail;go_ret
   rw [HQ.out];exact ⟨rfl,_,R2.out,E2.out⟩
structure RJ {α:Type} (RE:World→(Nat→Prop)→α→Prop) (G:Gk) (w:World) (Z:Nat→Prop) (q:Rd × α):Prop where
 parts:∃ X Y,RRd w G X q.1∧RE w Y q.2∧(∀ g,X g→¬ Y g)∧(∀ g,X g∨Y g→Z g)
 lt:∀ g,Z g→g<w.heap.size
 gl:Gl w Z
def PJ {α:Type} (RE:World→(Nat→Prop)→α→Prop) (G:Gk) (Z:Nat→Prop) (w:World) (q:(Rd × α) × Int) (e:Ending) (w':World):Prop:=e=.returned (.int .i64 q.2)∧∃ Z',RJ RE G w' Z' q.1∧Evo w Z w' Z'
def PJu {α:Type} (RE:World→(Nat→Prop)→α→Prop) (G:Gk) (Z:Nat→Prop) (w:World) (q:Rd × α) (e:Ending) (w':World):Prop:=e=.returned (.tuple #[])∧∃ Z',RJ RE G w' Z' q∧Evo w Z w' Z'
structure ExtOk {α:Type} (E:Ext α) (RE:World→(Nat→Prop)→α→Prop) (G:Gk):Prop where
 keeps:∀ {w w':World} {S Y:Nat→Prop} {x:α},RE w Y x→Keeps S w w'→(∀ g,Y g→¬ S g)→RE w' Y x
 lt:∀ {w:World} {Y:Nat→Prop} {x:α},RE w Y x→∀ g,Y g→g<w.heap.size
 no:∀ low,E.has low=false→G.fm low=none
 yes:∀ low,E.has low=true→∃ k cap,G.fm low=some (.func (.func k) #[] cap)∧Enters k∧∀ w Z q,E.good q.1→RJ RE G w Z q→Calls Tryz.prog k (#[.pointer (some ⟨G.ob,0,none⟩)]++cap) w (PJ RE G Z w (E.word low q))
theorem RJ.of {α:Type} {E:Ext α} {RE:World→(Nat→Prop)→α→Prop} {G:Gk} (ok:ExtOk E RE G) {w w':World} {Z X Y X':Nat→Prop} {q:Rd × α} {r':Rd} (hz:RJ RE G w Z q) (hx:RRd w G X q.1) (hy:RE w Y q.2) (d:∀ g,X g→¬ Y g) (s:∀ g,X g∨Y g→Z g) (hr:RRd w' G X' r') (ev:Evo w X w' X') :
 ∃ Z',RJ RE G w' Z' (r',q.2)∧Evo w Z w' Z':=by
 have e:Evo w Z w' (fun g=>Z g∨X' g):=⟨ev.k.mono (fun g _ h=>s g (.inl h)),fun g hg=>hg.elim .inl (fun h=>(ev.n g h).imp (fun h=>s g (.inl h)) id)⟩
 have hylt:=ok.lt hy;refine ⟨fun g=>Z g∨X' g,⟨⟨X',Y,hr,ok.keeps hy ev.k (fun g hg h=>d g h hg),fun g h1 h2=>(ev.n g h1).elim (fun h=>d g h h2) (fun h=>by have:=hylt g h2;omega),fun g hg=>hg.elim .inr (fun h=>.inl (s g (.inr h)))⟩,?_,hz.gl.evo e⟩,e⟩
 rintro g (hg | hg)
 · exact Nat.lt_of_lt_of_le (hz.lt g hg) ev.k.size
 · exact hr.elim fun _ h=>h.2.2 g hg
structure WkOk (f:Nat):Prop where
 ent:Enters f
 ok:WdOkG f (Rd.doW f)
theorem enters_only:Enters 372:=fun args w=>Tryz.call372 args w
theorem rd_only (G:Gk) (X:Nat→Prop) (w:World) (r:Rd) (f gb:Nat) (t:TypeId) (ok:WkOk f) (hb:w.heap[gb]?=some (.cells #[fnV f] t (0,0))) (hg:Gl w X) (h:RRd w G X r) :
 Calls Tryz.prog 372 #[.pointer (some ⟨G.ob,0,none⟩),.pointer (some ⟨gb,0,none⟩)] w (PR G X w (r.doK (.only f))):=by
 have hq:r.doK (.only f)=if r.comp=false then (r,-14) else Rd.doW f r:=rfl
 generalize r.doK (.only f)=Q at hq ⊢;have HD:=h_ (ok.ok G X w r hg h);have hent:∀ (args:Array Value) (w:World),(callFunc f args).run Tryz.prog w=.ok (.enter f args) w:=ok.ent;have y0:w.cell? ⟨gb,0,none⟩=some (fnV f):=cell_of hb rfl;unfold fnV at y0;have R0:=h_ h;have E0:=h_ (Evo.refl w X);have o4:=R0.out.o4
 cases hc:r.comp with
 | false =>
  rw [if_pos hc] at hq;rw [hc] at o4;have HQ:=h_ hq;clear h hq hc hg hb HD
  go_enter Tryz.func372,Tryz.ntmps372
  go_wp2_with fail;go_ret
  rw [HQ.out];exact ⟨rfl,_,R0.out,E0.out⟩
 | true =>
  rw [if_neg (by rw [hc];simp)] at hq
  rw [hc] at o4;rw [← hq] at HD;clear h hq hc hg hb ok
  go_enter Tryz.func372,Tryz.ntmps372
  go_wp2_with fail;refine (HD.out).mono ?_;rintro e w1 ⟨rfl,X1,r1,k1⟩;have R1:=h_ r1;have E1:=h_ (E0.out.trans k1);clear r1 k1
  try clear o4
  go_wp2_with fail;go_ret
  exact ⟨rfl,_,R1.out,E1.out⟩
theorem wk_colon:WkOk 217:=⟨fun args w=>Tryz.call217 args w,fun G X w r hg h=>wd_colon.g G X w r hg h⟩
theorem wk_semicolon:WkOk 218:=⟨fun args w=>Tryz.call218 args w,fun G X w r hg h=>wd_semicolon.g G X w r hg h⟩
theorem wk_immediate:WkOk 219:=⟨fun args w=>Tryz.call219 args w,fun G X w r hg h=>wd_immediate.g G X w r hg h⟩
theorem wk_recurse:WkOk 221:=⟨fun args w=>Tryz.call221 args w,fun G X w r hg h=>wd_recurse.g G X w r hg h⟩
theorem wk_exit:WkOk 222:=⟨fun args w=>Tryz.call222 args w,fun G X w r hg h=>wd_exit.g G X w r hg h⟩
theorem wk_variable:WkOk 223:=⟨fun args w=>Tryz.call223 args w,fun G X w r hg h=>wd_variable.g G X w r hg h⟩
theorem wk_create:WkOk 225:=⟨fun args w=>Tryz.call225 args w,fun G X w r hg h=>wd_create.g G X w r hg h⟩
theorem wk_constant:WkOk 226:=⟨fun args w=>Tryz.call226 args w,fun G X w r hg h=>wd_constant.g G X w r hg h⟩
theorem wk_if:WkOk 227:=⟨fun args w=>Tryz.call227 args w,fun G X w r hg h=>wd_if.g G X w r hg h⟩
theorem wk_else:WkOk 229:=⟨fun args w=>Tryz.call229 args w,fun G X w r hg h=>wd_else.g G X w r hg h⟩
theorem wk_then:WkOk 230:=⟨fun args w=>Tryz.call230 args w,fun G X w r hg h=>wd_then.g G X w r hg h⟩
theorem wk_begin:WkOk 232:=⟨fun args w=>Tryz.call232 args w,fun G X w r hg h=>wd_begin.g G X w r hg h⟩
theorem wk_again:WkOk 234:=⟨fun args w=>Tryz.call234 args w,fun G X w r hg h=>wd_again.g G X w r hg h⟩
theorem wk_until:WkOk 236:=⟨fun args w=>Tryz.call236 args w,fun G X w r hg h=>wd_until.g G X w r hg h⟩
theorem wk_while:WkOk 237:=⟨fun args w=>Tryz.call237 args w,fun G X w r hg h=>wd_while.g G X w r hg h⟩
theorem wk_repeat:WkOk 238:=⟨fun args w=>Tryz.call238 args w,fun G X w r hg h=>wd_repeat.g G X w r hg h⟩
theorem wk_do:WkOk 239:=⟨fun args w=>Tryz.call239 args w,fun G X w r hg h=>wd_do.g G X w r hg h⟩
theorem wk_loop:WkOk 240:=⟨fun args w=>Tryz.call240 args w,fun G X w r hg h=>wd_loop.g G X w r hg h⟩
theorem wk_ploop:WkOk 241:=⟨fun args w=>Tryz.call241 args w,fun G X w r hg h=>wd_ploop.g G X w r hg h⟩
theorem wk_paren:WkOk 242:=⟨fun args w=>Tryz.call242 args w,fun G X w r hg h=>wd_paren G X w r hg h⟩
theorem wk_line:WkOk 244:=⟨fun args w=>Tryz.call244 args w,fun G X w r hg h=>wd_line.g G X w r hg h⟩
theorem wk_text:WkOk 245:=⟨fun args w=>Tryz.call245 args w,fun G X w r hg h=>wd_text G X w r hg h⟩
theorem wk_say:WkOk 246:=⟨fun args w=>Tryz.call246 args w,fun G X w r hg h=>wd_say G X w r hg h⟩
theorem wk_char:WkOk 247:=⟨fun args w=>Tryz.call247 args w,fun G X w r hg h=>wd_char.g G X w r hg h⟩
theorem wk_tick:WkOk 248:=⟨fun args w=>Tryz.call248 args w,fun G X w r hg h=>wd_tick.g G X w r hg h⟩
def Wk.fn:Wk→Nat
 | .plain f=>f
 | .only f=>f
theorem wput_some {K:List UInt8→Option Wk} {x s:List UInt8} {a b:Wk} (h:wput K x a s=some b):a=b∨K s=some b:=by
 unfold wput at h;by_cases e:s=x
 · rw [if_pos e] at h;exact .inl (Option.some.inj h)
 · rw [if_neg e] at h;exact .inr h
theorem words_ok:∀ s kd,K_words s=some kd→WkOk kd.fn:=by
 intro s kd h
 rcases wput_some h with rfl | h
 · exact wk_tick
 rcases wput_some h with rfl | h
 · exact wk_char
 rcases wput_some h with rfl | h
 · exact wk_say
 rcases wput_some h with rfl | h
 · exact wk_text
 rcases wput_some h with rfl | h
 · exact wk_line
 rcases wput_some h with rfl | h
 · exact wk_paren
 rcases wput_some h with rfl | h
 · exact wk_ploop
 rcases wput_some h with rfl | h
 · exact wk_loop
 rcases wput_some h with rfl | h
 · exact wk_do
 rcases wput_some h with rfl | h
 · exact wk_repeat
 rcases wput_some h with rfl | h
 · exact wk_while
 rcases wput_some h with rfl | h
 · exact wk_until
 rcases wput_some h with rfl | h
 · exact wk_again
 rcases wput_some h with rfl | h
 · exact wk_begin
 rcases wput_some h with rfl | h
 · exact wk_then
 rcases wput_some h with rfl | h
 · exact wk_else
 rcases wput_some h with rfl | h
 · exact wk_if
 rcases wput_some h with rfl | h
 · exact wk_constant
 rcases wput_some h with rfl | h
 · exact wk_create
 rcases wput_some h with rfl | h
 · exact wk_variable
 rcases wput_some h with rfl | h
 · exact wk_exit
 rcases wput_some h with rfl | h
 · exact wk_recurse
 rcases wput_some h with rfl | h
 · exact wk_immediate
 rcases wput_some h with rfl | h
 · exact wk_semicolon
 rcases wput_some h with rfl | h
 · exact wk_colon
 cases h
end Go.Proofs.Shed
