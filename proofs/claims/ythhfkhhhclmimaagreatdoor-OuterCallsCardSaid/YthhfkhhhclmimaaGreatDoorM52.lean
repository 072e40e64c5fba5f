/- Of CallsG: WCalJ. No condition. -/
import Derived.Test.YthhfkhhhclmimaaGreatDoorM51
set_option linter.unusedVariables false
set_option linter.unusedSimpArgs false
set_option maxRecDepth 10000
set_option maxHeartbeats 4000000
namespace Go.Proofs.Shed
open Go Go.RowKit Go.Proofs.K Go.Proofs.Cod
def MoreP (w0 w:World) (n:Nat) (f:List UInt8→Option Value):Prop:=MapIs sk w (w0.heap.size+1) n f∧w.heap[w0.heap.size]?=some (.cells #[.int .i64 0] 3 (0,0))∧Keeps (fun _=>False) w0 w
theorem MoreP.start (w:World):MoreP w ((w.alloc (.cells #[.int .i64 0] 3)).alloc (.map #[] 0)) 0 (fun _=>none):=by
 have hm:=MapIs.made (P:=Tryz.prog) sk (w.alloc (.cells #[.int .i64 0] 3));rw [World.size_alloc] at hm;exact ⟨hm,older_alloc (halloc_at _ _),(Keeps.alloc _ _ _).trans (Keeps.alloc _ _ _)⟩
theorem wpList_moreP {w0:World} (w:World) {ops:Array Oper} {rest:List Oper} {o:Oper} {a:Act} {Q:Exit→Act→World→Prop} (hg:o.guard=none) (m x v:Operand) (hop:o.op=Op.insert 57 m x v) (n:Nat) (f:List UInt8→Option Value)
 (hm:a.eval m=.map (some (w0.heap.size+1))) (hown:MoreP w0 w n f) (hn:n<1000) (s:List UInt8) (hs:s.length≤1000) (val:Value) (hx:a.eval x=.string ⟨s.toArray⟩) (hv:a.eval v=val)
 (hK:∀ w',MoreP w0 w' (n+1) (upd f s val)→wpList Tryz.prog ops Q rest (a.put o.dst undef) w'):wpList Tryz.prog ops Q (o :: rest) a w:=by
 obtain ⟨h1,h2,h3⟩:=hown;refine wpList_put sk w hg m x v 57 (.inr hop) _ Tryz.underlying57 (w0.heap.size+1) n f hm h1 (by unfold maxLen;omega) s (Nat.le_trans hs (by unfold maxLen;omega)) val hx hv ?_
 intro w' k1 k2;exact hK w' ⟨k1,k2.heap h2 (by omega),h3.trans' k2 (fun i hi e=>by have e:i=w0.heap.size+1:=e;omega)⟩
structure Both (GA GB:Gk) (gd:Nat) (w wk:World) (ZA ZB:Nat→Prop) (ra:Rd) (y:Int) (rb:Rd):Prop where
 duo:Duo (RE1 gd) RE0 GA GB wk ZA ZB (ra,y) (rb,())
 za:∀ g,ZA g→w.heap.size≤g
 zb:∀ g,ZB g→w.heap.size≤g
 k:Keeps (fun _=>False) w wk
section
variable {K K2:Bk} {ob pm np mm nm gd ob2 pm2 np2 mm2:Nat} {w wk wn:World} {ZA ZB Z':Nat→Prop} {ra ra' rb rb':Rd} {y y':Int}
theorem Both.stepA (h:Both (Gk1 K ob pm np mm nm gd) (Gk0 K2 ob2 pm2 np2 mm2) gd w wk ZA ZB ra y rb) (j:RJ (RE1 gd) (Gk1 K ob pm np mm nm gd) wn Z' (ra',y')) (e:Evo wk ZA wn Z'):Both (Gk1 K ob pm np mm nm gd) (Gk0 K2 ob2 pm2 np2 mm2) gd w wn Z' ZB ra' y' rb :=
 ⟨h.duo.stepA (ext0_ok K2 ob2 pm2 np2 mm2) j e,fun g hg=>(e.n g hg).elim (h.za g) (fun hs=>Nat.le_trans h.k.size hs),h.zb,h.k.trans' e.k (fun i hi hz=>by have:=h.za i hz;omega)⟩
theorem Both.stepB (h:Both (Gk1 K ob pm np mm nm gd) (Gk0 K2 ob2 pm2 np2 mm2) gd w wk ZA ZB ra y rb) (j:RJ RE0 (Gk0 K2 ob2 pm2 np2 mm2) wn Z' (rb',())) (e:Evo wk ZB wn Z'):Both (Gk1 K ob pm np mm nm gd) (Gk0 K2 ob2 pm2 np2 mm2) gd w wn ZA Z' ra y rb' :=
 ⟨h.duo.stepB (ext1_ok K ob pm np mm nm gd) j e,h.za,fun g hg=>(e.n g hg).elim (h.zb g) (fun hs=>Nat.le_trans h.k.size hs),h.k.trans' e.k (fun i hi hz=>by have:=h.zb i hz;omega)⟩
theorem Both.keeps0 (h:Both (Gk1 K ob pm np mm nm gd) (Gk0 K2 ob2 pm2 np2 mm2) gd w wk ZA ZB ra y rb) (k:Keeps (fun _=>False) wk wn):Both (Gk1 K ob pm np mm nm gd) (Gk0 K2 ob2 pm2 np2 mm2) gd w wn ZA ZB ra y rb :=
 ⟨h.duo.keeps0 (ext1_ok K ob pm np mm nm gd) (ext0_ok K2 ob2 pm2 np2 mm2) k,h.za,h.zb,h.k.trans k⟩
end
structure Aside (wk:World) (ZA ZB:Nat→Prop) (g:Nat) (o:Obj):Prop where
 a:¬ ZA g
 b:¬ ZB g
 h:wk.heap[g]?=some o
theorem lt_obj {w:World} {g:Nat} {o:Obj} (h:w.heap[g]?=some o):g<w.heap.size:=by
 rcases Nat.lt_or_ge g w.heap.size with h1 | h1
 · exact h1
 · rw [Array.getElem?_eq_none h1] at h;cases h
theorem Aside.stepA {wk wn:World} {ZA ZB Z':Nat→Prop} {g:Nat} {o:Obj} (h:Aside wk ZA ZB g o) (e:Evo wk ZA wn Z'):Aside wn Z' ZB g o :=
 ⟨fun hz=>(e.n g hz).elim h.a (fun hs=>by have:=lt_obj h.h;omega),h.b,e.k.heap h.h h.a⟩
theorem Aside.keeps0 {wk wn:World} {ZA ZB:Nat→Prop} {g:Nat} {o:Obj} (h:Aside wk ZA ZB g o) (k:Keeps (fun _=>False) wk wn):Aside wn ZA ZB g o:=⟨h.a,h.b,k.heap h.h id⟩
theorem RJ.mbz {α:Type} {RE:World→(Nat→Prop)→α→Prop} {G:Gk} {w:World} {Z:Nat→Prop} {q:Rd × α} (h:RJ RE G w Z q):Z G.K.mb:=by
 obtain ⟨X,Y,⟨D,h1,h2,h3⟩,_,_,h4⟩:=h.parts;exact h4 _ (.inl (h2 _ (.inr (.inl (.inl rfl)))))
theorem hmf3 (fn:Fn) (first cap:Array Value) (w:World):(Instr.makeFunc fn first cap).run Tryz.prog w=.ok (.func fn first cap) w:=rfl
section
variable {K K2:Bk} {ob pm np mm nm gd ob2 pm2 np2 mm2:Nat} {w wk:World} {ZA ZB:Nat→Prop} {ra rb:Rd} {y:Int}
theorem Both.seesA (h:Both (Gk1 K ob pm np mm nm gd) (Gk0 K2 ob2 pm2 np2 mm2) gd w wk ZA ZB ra y rb) :
 wk.cell? ⟨ob,0,none⟩=some (.pointer (some ⟨K.mb,0,none⟩))∧wk.cell? ⟨ob,4,none⟩=some (.bool ra.comp)∧wk.cell? ⟨K.mb,0,none⟩=some (.pointer (some ⟨K.s,0,none⟩))∧wk.cell? ⟨K.mb,1,none⟩=some (.pointer (some ⟨K.db,0,none⟩)) ∧
  wk.cell? ⟨K.mb,11,none⟩=some (.string ⟨ra.v.out.toArray⟩)∧wk.cell? ⟨K.s,0,none⟩=some (.pointer (some ⟨K.b,0,none⟩))∧wk.cell? ⟨gd,0,none⟩=some (.int .i64 y)∧RFv wk K ra.v :=
 h.duo.a.rd.elim fun X q=>⟨q.o0,q.o4,q.v0,q.v1,q.fv.m11,q.vs,h.duo.a.parts.elim fun _ p=>p.elim fun _ p=>cell_of p.2.1.2.2 rfl,q.fv⟩
theorem Both.seesB (h:Both (Gk1 K ob pm np mm nm gd) (Gk0 K2 ob2 pm2 np2 mm2) gd w wk ZA ZB ra y rb) :
 wk.cell? ⟨ob2,0,none⟩=some (.pointer (some ⟨K2.mb,0,none⟩))∧wk.cell? ⟨K2.mb,0,none⟩=some (.pointer (some ⟨K2.s,0,none⟩))∧RFv wk K2 rb.v :=
 h.duo.b.rd.elim fun X q=>⟨q.o0,q.v0,q.fv⟩
end
theorem C17.tail_step (l:List Int) (i:Nat) (h:i<l.length):C17.tail (l.take (i+1))=C17.tail (l.take i)++32 :: Num.show_ l[i] 10:=by
 unfold C17.tail;rw [List.take_succ_eq_append_getElem h,List.flatMap_append];simp
theorem C17.text_len (l:List Int):∀ i,(58 :: 32 :: 119 :: C17.tail (l.take i)).length≤3+66*i
 | 0=>by simp [C17.tail]
 | i+1=>by
  have ih:=C17.text_len l i;by_cases h:i<l.length
  · rw [C17.tail_step l i h]
    have:=show_len l[i] 10;simp only [List.length_cons,List.length_append] at ih ⊢
    omega
  · have e:l.take (i+1)=l.take i:=by rw [List.take_of_length_le (by omega),List.take_of_length_le (by omega)]
    rw [e];omega
theorem rj_mark {α:Type} {E:Ext α} {RE:World→(Nat→Prop)→α→Prop} {G:Gk} (ok:ExtOk E RE G) (w:World) (Z:Nat→Prop) (q:Rd × α) (d:Wd) (fl:Int) (a0:0≤d.at_) (a1:d.at_≤4194304) (f0:0≤fl) (f1:fl≤255) (hz:RJ RE G w Z q) :
 Calls Tryz.prog 37 #[.pointer (some ⟨G.K.b,0,none⟩),d.val,.int .i64 fl] w (PJ RE G Z w (({ q.1 with v:=(q.1.v.mem (q.1.v.x.mem.markWd d.at_ fl).1,(q.1.v.x.mem.markWd d.at_ fl).2).1 },q.2),(q.1.v.x.mem.markWd d.at_ fl).2)):=by
 obtain ⟨X,Y,h1,h2,h3,h4⟩:=hz.parts;exact (fv_mark G.K w q.1.v d fl a0 a1 f0 f1 h1.fv).mono fun e w' ⟨he,hv,k⟩=>⟨he,RJ.of ok hz h1 h2 h3 h4 (h1.vm hv k) (h1.evo k)⟩
theorem rd_literal_c (G:Gk) (X:Nat→Prop) (w:World) (r:Rd) (a:Option Addr) (c:Nat) (l:List Int) (ha:ArgI w a l) (hl:l.length≤100000) (hne:l≠[]→∀ g,blk a=some g→¬ X g) (hc:r.comp=true) (h:RRd w G X r) :
 Calls Tryz.prog 28 #[.pointer (some ⟨G.ob,0,none⟩),.slice a l.length c] w (PR G X w (r.literal l)):=by
 have hq:r.literal l=if r.comp then Rd.commas (l.flatMap fun n=>[r.xt [108,105,116],n]) r else r.push l:=rfl
 generalize r.literal l=Q at hq ⊢;rw [hc,if_pos rfl] at hq;have HQ:=h_ hq;have HA:=h_ ha;have HNE:=h_ hne;have R0:=h_ h;have E0:=h_ (Evo.refl w X);have o4:=R0.out.o4;rw [hc] at o4;clear h ha hne hq
 go_enter Tryz.func28,Tryz.ntmps28
 go_wp2_with fail
 go_loopw [24] (fun iv wr=>∃ (i:Nat) (u:Rd) (Y:Nat→Prop),iv=.int .i64 i∧i≤l.length∧RRd wr G Y u∧Evo w X wr Y∧u.pf=r.pf∧Q=Rd.commas ((l.drop i).flatMap fun n=>[r.xt [108,105,116],n]) u) (fun iv _=>l.length-(intOf iv).toNat)
 case atStart=>exact ⟨0,r,X,rfl,Nat.zero_le _,R0.out,E0.out,rfl,HQ.out⟩
 case round =>
  obtain ⟨i,u,Y,rfl,hi,hr,hev,hpf,hrest⟩:=hrel;have R2:=h_ hr;have E2:=h_ hev;have HR:=h_ hrest;have HPF:=h_ hpf;clear hr hev hrest hpf o4;by_cases hlt:i<l.length
  · obtain ⟨g,o,rfl,hcc⟩:=HA.out.keeps E2.out.k (fun g hg=>HNE.out (fun e=>by rw [e] at hlt;cases hlt) g hg) i hlt
    have hd:l.drop i=l[i] :: l.drop (i+1):=List.drop_eq_getElem_cons hlt;have hr2:=HR.out;rw [hd,List.flatMap_cons,Rd.commas_app] at hr2;generalize l[i]=n at hcc hr2;have hxt:r.xt [108,105,116]=u.xt [108,105,116]:=by unfold Rd.xt;rw [HPF.out]
    have hcm:Rd.commas [r.xt [108,105,116],n] u=u.compile [108,105,116] [n]:=by rw [hxt];rfl
    rw [hcm] at hr2;have HCC:=h_ (rd_compile1 G Y wr u [108,105,116] n (by decide) R2.out)
    have hpc:(u.compile [108,105,116] [n]).1.pf=r.pf:=by rw [← hcm,Rd.commas_pf,HPF.out]
    generalize u.compile [108,105,116] [n]=q at hr2 HCC hpc;obtain ⟨u3,e3⟩:=q;have hi1:(i:Int)<l.length:=by omega
    have HPC:=h_ hpc;clear hd hxt hcm hpc;by_cases he:e3=0
    · subst he
      have hr3:Q=Rd.commas ((l.drop (i+1)).flatMap fun n=>[r.xt [108,105,116],n]) u3:=by
       rw [hr2];unfold Rd.bind;rw [if_neg (by simp)]
      replace HR:=h_ hr3;clear hr2 hr3;go_wp2_with fail;refine (HCC.out).mono ?_;rintro e w3 ⟨rfl,X3,r3,k3⟩;have R3:=h_ r3;have E3:=h_ (E2.out.trans k3);clear r3 k3
      try clear o4
      go_wp2_with fail
      go_roundw
      case rel=>exact ⟨i+1,u3,X3,by go_num,by omega,R3.out,E3.out,HPC.out,HR.out⟩
      case measure=>simp [intOf];omega
    · have hr3:Q=(u3,e3):=by rw [hr2];unfold Rd.bind;rw [if_pos (by simpa using he)]
      replace HR:=h_ hr3;have d1:(e3 == 0)=false:=by simp [he]
      clear hr2 hr3 he;go_wp2_with fail;refine (HCC.out).mono ?_;rintro e w3 ⟨rfl,X3,r3,k3⟩;have R3:=h_ r3;have E3:=h_ (E2.out.trans k3);clear r3 k3
      try clear o4
      go_wp2_with fail;go_ret
      rw [HR.out];exact ⟨rfl,_,R3.out,E3.out⟩
  · have hge:i=l.length:=by omega
    subst hge;have hr2:=HR.out;rw [List.drop_length] at hr2;have HF:=h_ (show Q=(u,0) from hr2)
    have hi1:¬ ((l.length:Int)<l.length):=by omega
    clear hr2;go_wp2_with fail;go_ret
    rw [HF.out];exact ⟨rfl,_,R2.out,E2.out⟩
theorem rj_pop {α:Type} {E:Ext α} {RE:World→(Nat→Prop)→α→Prop} {G:Gk} (ok:ExtOk E RE G) (w:World) (Z:Nat→Prop) (q:Rd × α) (hz:RJ RE G w Z q) :
 Calls Tryz.prog 43 #[.pointer (some ⟨G.K.db,0,none⟩)] w fun e w'=>e=.returned (.tuple #[.int .i64 q.1.v.pop.2.1,.int .i64 q.1.v.pop.2.2])∧∃ Z',RJ RE G w' Z' ({ q.1 with v:=q.1.v.pop.1 },q.2)∧Evo w Z w' Z':=by
 obtain ⟨X,Y,h1,h2,h3,h4⟩:=hz.parts;exact (fv_pop G.K w q.1.v h1.fv).mono fun e w' ⟨he,hv,k⟩=>⟨he,RJ.of ok hz h1 h2 h3 h4 (h1.vm hv k) (h1.evo k)⟩
namespace C17
theorem clean_is (s:List UInt8):∃ c t,cleanT s=c :: t∧Src.solid (cleanT s)=true∧(cleanT s).length≤21:=by
 have hl:(cleanT s).length≤21:=by
  unfold cleanT darks;rw [List.length_append];have h1:=List.length_filter_le (fun c:UInt8=>decide (32<c.toNat)) (s.take 20)
  rw [List.length_take] at h1
  show _+1≤21
  omega
 have hne:cleanT s≠[]:=by unfold cleanT;simp
 have hs:Src.solid (cleanT s)=true:=by
  unfold Src.solid;rw [Bool.and_eq_true];refine ⟨by cases h:cleanT s with | nil=>exact absurd h hne | cons=>rfl,?_⟩
  rw [List.all_eq_true];intro c hc
  have h:32<c.toNat:=by
   unfold cleanT darks at hc;rw [List.mem_append] at hc
   rcases hc with hc | hc
   · simpa using (List.mem_filter.1 hc).2
   · rw [List.mem_singleton.1 hc];decide
  unfold Src.blank;simp
  first | omega | (rw [UInt8.lt_iff_toNat_lt];exact h)
 cases h:cleanT s with
 | nil=>exact absurd h hne
 | cons c t=>rw [h] at hs hl;exact ⟨c,t,rfl,hs,hl⟩
theorem pushed_depth {v:VM} (h:Post v) (hd:v.d.depth<50) (n:Int):(Rd.pushed v n).d.depth=v.d.depth+1:=by
 rw [Rd.pushed_d v n (by rw [h.most];omega)]
theorem three_is (l:List Int) (f:Int) (c:UInt8):Post (three { vm with x:=Y l,fuel:=f } c)∧(three { vm with x:=Y l,fuel:=f } c).d.depth=3:=by
 have h0:=post_start l f;have d0:({ vm with x:=Y l,fuel:=f }:VM).d.depth=0:=rfl;generalize ({ vm with x:=Y l,fuel:=f }:VM)=v at h0 d0 ⊢;have h1:=post_push h0 (by omega) 7
 have d1:=pushed_depth h0 (by omega) 7
 have h2:=post_push h1 (by omega) c.toNat
 have d2:=pushed_depth h1 (by omega) c.toNat
 have h3:=post_push h2 (by omega) 9
 have d3:=pushed_depth h2 (by omega) 9
 exact ⟨h3,by unfold three;omega⟩
theorem three_cd (b:Nat) (v:VM) (h:VM.Cd (K0 b) v) (c:UInt8):VM.Cd (K0 b) (three v c):=(VM.push_fn (VM.push_fn (VM.push_fn h [7]).1 [(c.toNat:Int)]).1 [9]).1
theorem cd_start (b:Nat):VM.Cd (K0 b) vm:=cd17 12000 60 30 400 0 True b (by decide) (by decide)
end C17
end Go.Proofs.Shed
