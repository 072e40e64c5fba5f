/- Of CallsG: WStackB, WStackC, WEqI. No condition. -/
import Derived.Test.YthhfkhhhclmimaaGreatDoorM28
import Derived.Test.YthhfkhhhclmimaaGreatDoorM19
set_option linter.unusedVariables false
set_option linter.unusedSimpArgs false
set_option maxRecDepth 10000
set_option maxHeartbeats 4000000
namespace Go.Proofs.Shed
open Go Go.RowKit Go.Proofs.K
theorem stk_drop (w:World) (d b:Nat) (s:Stk) (n:Int) (h:RStk w d b s) :
 Calls Tryz.prog 53 #[.pointer (some ⟨d,0,none⟩),.int .i64 n] w fun e w'=>e=.returned (.int .i64 (Stk.drop s n).2)∧RStk w' d b (Stk.drop s n).1∧Keeps (fun k=>k=d) w w':=by
 have c2:=cell_of (i:=2) h.head rfl;have c4:=cell_of (i:=4) h.head rfl;have c3:=cell_of (i:=3) h.head rfl;have f3:=free_of (i:=3) h.head;unfold Stk.drop;by_cases h1:n<0
 · have d1:decide (n<0)=true:=decide_eq_true h1
   rw [if_pos h1];have H:=h_ h;clear h1 h
   go_enter Tryz.func53,Tryz.ntmps53
   go_wp2_with fail;go_ret
   exact ⟨rfl,H.out,Keeps.refl _ _⟩
 · have d1:decide (n<0)=false:=decide_eq_false h1
   rw [if_neg h1];by_cases h2:s.most<n
   · have d2:decide (s.most<n)=true:=decide_eq_true h2
     rw [if_pos h2];have H:=h_ h;clear h1 h2 h;obtain ⟨fr,mo,de,ov,un⟩:=s
     go_enter Tryz.func53,Tryz.ntmps53
     go_wp2_with fail;go_ret
     exact ⟨rfl,H.out,Keeps.refl _ _⟩
   · have d2:decide (s.most<n)=false:=decide_eq_false h2
     rw [if_neg h2];have H:=h_ (h.withDepth n (by omega) (by omega))
     clear h1 h2 h;obtain ⟨fr,mo,de,ov,un⟩:=s
     go_enter Tryz.func53,Tryz.ntmps53
     go_wp2_with fail;go_ret
     exact ⟨rfl,H.out,Keeps.setCell _ _ _ (fun _=>rfl)⟩
theorem stk_pop (w:World) (d b bb:Nat) (s:Stk) (m:Mem) (h:RStk w d b s) (hm:RMem w b bb m) :
 Calls Tryz.prog 43 #[.pointer (some ⟨d,0,none⟩)] w fun e w'=>e=.returned (.tuple #[.int .i64 (Stk.pop m s).2.1,.int .i64 (Stk.pop m s).2.2])∧RStk w' d b (Stk.pop m s).1∧Keeps (fun k=>k=d) w w':=by
 have HA:=h_ (stk_at w d b bb s m 0 h hm);have hok:=h.ok;unfold Stk.Ok at hok
 have hpos:(Stk.at_ m s 0).2=0→1≤s.depth:=by
  intro e;by_cases hd:s.depth≤0
  · unfold Stk.at_ at e
    rw [if_neg (by omega),if_pos hd] at e
    exact absurd e hok.2.2.2.2.2.1
  · omega
 unfold Stk.pop;generalize Stk.at_ m s 0=r at HA hpos ⊢;obtain ⟨n,e⟩:=r;simp only at HA hpos ⊢
 have H:=h_ h;have c3:=cell_of (i:=3) h.head rfl;have f3:=free_of (i:=3) h.head;have hlt:=h.lt;clear h;by_cases he:e=0
 · have h1:=hpos he
   have hw1:IntKind.i64.wrap (s.depth-1)=s.depth-1:=IntWalk.i64_in _ (by omega)
   rw [if_pos he];subst he;clear hpos
   go_enter Tryz.func43,Tryz.ntmps43
   go_wp2_with fail;refine HA.out.mono ?_;rintro e w1 ⟨rfl,k1⟩;have C3:=k1.cell c3 id;have F3:=k1.frozen f3 hlt id;have H1:=h_ ((H.out.keeps k1 id).withDepth (s.depth-1) (by omega) (by omega))
   have K1:=h_ k1;clear k1 c3 f3;go_wp2_with fail;go_ret2
   exact ⟨rfl,H1.out,(K1.out.mono (fun _ _ e=>e.elim)).trans (Keeps.setCell _ _ _ (fun _=>rfl))⟩
 · have d1:(e == 0)=false:=by rw [beq_eq_false_iff_ne];exact he
   rw [if_neg he];clear hpos he c3 f3
   go_enter Tryz.func43,Tryz.ntmps43
   go_wp2_with fail;refine HA.out.mono ?_;rintro e w1 ⟨rfl,k1⟩;have H1:=h_ (H.out.keeps k1 id);have K1:=h_ k1;clear k1;go_wp2_with fail;go_ret2
   exact ⟨rfl,H1.out,K1.out.mono (fun _ _ e=>e.elim)⟩
def PushPost (d b bb:Nat) (r:Mem × Stk × Int) (w:World) (e:Ending) (w':World):Prop :=
 e=.returned (.int .i64 r.2.2)∧RMem w' b bb r.1∧RStk w' d b r.2.1∧Keeps (fun k=>k=d∨k=bb) w w'
theorem stk_push (w:World) (d b bb:Nat) (s:Stk) (m:Mem) (a:Option Addr) (c:Nat) (L:List Int) (h:RStk w d b s) (hm:RMem w b bb m) (ne:d≠b∧d≠bb) (hA:ArgI w a L) (hl:L.length≤1048576) (hne:∀ g,blk a=some g→g≠d∧g≠bb) :
 Calls Tryz.prog 80 #[.pointer (some ⟨d,0,none⟩),.slice a L.length c] w (PushPost d b bb (Stk.push m s L) w):=by
 have hok:=h.ok;unfold Stk.Ok at hok;have hw1:IntKind.i64.wrap (s.most-s.depth)=s.most-s.depth:=IntWalk.i64_in _ (by omega)
 have H:=h_ h;have HM:=h_ hm;have HA:=h_ hA;have HN:=h_ hne;unfold Stk.push;by_cases h1:s.most-s.depth<L.length
 · have d1:decide (s.most-s.depth<(L.length:Int))=true:=decide_eq_true h1
   rw [if_pos h1];have c2:=fun (q:Stay w)=>q.2.cell (cell_of (i:=2) h.head rfl) id
   have c3:=fun (q:Stay w)=>q.2.cell (cell_of (i:=3) h.head rfl) id
   clear h hm hA hne h1 hok
   go_enter Tryz.func80,Tryz.ntmps80
   go_wp2_with fail;refine Go.Proofs.K.wp_region_calm ?calm1a ?calm1b ?_
   case calm1a=>kernel_rfl
   case calm1b=>kernel_rfl
   repeat ((with_reducible refine wpQuiet_step ?_);intro Kq hKq;go_simp;first | ((with_reducible refine hKq _ ?_);clear hKq Kq) | (refine hKq _ ?_;clear hKq Kq) | (apply Exists.intro;refine ⟨fun _=>?_,hKq _ ?_⟩;(fail);clear hKq Kq))
   with_reducible refine wpQuiet_nil ?_
   intro v1 hw';obtain ⟨⟨wq,kq⟩,hw''⟩:=hw';subst hw'';have HK:=h_ kq;have c4:=HK.out.cell (cell_of (i:=4) H.out.head rfl) id;clear kq c2 c3;obtain ⟨fr,mo,de,ov,un⟩:=s;go_wp2_with fail;go_ret
   exact ⟨rfl,HM.out.keeps HK.out id id,H.out.keeps HK.out id,HK.out.mono (fun _ _ e=>e.elim)⟩
 · have d1:decide (s.most-s.depth<(L.length:Int))=false:=decide_eq_false h1
   rw [if_neg h1];have c2:=fun (q:Stay w)=>q.2.cell (cell_of (i:=2) h.head rfl) id
   have c3:=fun (q:Stay w)=>q.2.cell (cell_of (i:=3) h.head rfl) id
   have hroom:s.depth+L.length≤s.most:=by omega
   clear h hm hA hne h1
   go_enter Tryz.func80,Tryz.ntmps80
   go_wp2_with fail;refine Go.Proofs.K.wp_region_calm ?calm2a ?calm2b ?_
   case calm2a=>kernel_rfl
   case calm2b=>kernel_rfl
   repeat ((with_reducible refine wpQuiet_step ?_);intro Kq hKq;go_simp;first | ((with_reducible refine hKq _ ?_);clear hKq Kq) | (refine hKq _ ?_;clear hKq Kq) | (apply Exists.intro;refine ⟨fun _=>?_,hKq _ ?_⟩;(fail);clear hKq Kq))
   with_reducible refine wpQuiet_nil ?_
   intro v1 hw';obtain ⟨⟨wq,kq⟩,hw''⟩:=hw';subst hw'';have HK:=h_ kq;clear kq c2 c3 d1 hw1;go_wp2_with fail
   go_loopw [29] (fun iv wr=>∃ i:Nat,iv=.int .i64 i∧i≤L.length∧RMem wr b bb (Stk.pushN m s (L.take i)).1∧RStk wr d b (Stk.pushN m s (L.take i)).2∧Keeps (fun k=>k=d∨k=bb) w wr) (fun iv _=>L.length-(intOf iv).toNat)
   case atStart=>exact ⟨0,rfl,Nat.zero_le _,HM.out.keeps HK.out id id,H.out.keeps HK.out id,HK.out.mono (fun _ _ e=>e.elim)⟩
   case round =>
    obtain ⟨i,rfl,hi,hm1,hs1,hk1⟩:=hrel;by_cases hlt:i<L.length
    · obtain ⟨g,o,rfl,d0'⟩:=HA.out i hlt
      have d0:=hk1.cell d0' (by have:=HN.out g rfl;simp only;omega)
      have hsn:=Stk.pushN_snoc m s (L.take i) L[i];rw [← List.take_succ_eq_append_getElem hlt] at hsn;have hdp:(Stk.pushN m s (L.take i)).2.depth=s.depth+i:=by rw [Stk.pushN_depth,List.length_take];simp only;omega
      have hmo:(Stk.pushN m s (L.take i)).2.most=s.most:=by rw [Stk.pushN_depth]
      have HSN:=h_ hsn;generalize L[i]=n at d0 HSN;generalize hmm:(Stk.pushN m s (L.take i)).1=mi at hm1 HSN;generalize hss:(Stk.pushN m s (L.take i)).2=si at hs1 HSN hdp hmo;clear hmm hss hsn d0';have hi0:(0:Int)≤(i:Int):=by omega
      have hw2:IntKind.i64.wrap (si.depth+1)=si.depth+1:=IntWalk.i64_in _ (by omega)
      have hs2:=hs1.withDepth (si.depth+1) (by omega) (by omega)
      have kd:Keeps (fun k=>k=d) wr (wr.setCell ⟨d,3,none⟩ (.int .i64 (si.depth+1))):=Keeps.setCell _ _ _ (fun _=>rfl)
      have hm2:=hm1.keeps kd (fun e=>ne.1 e.symm) (fun e=>ne.2 e.symm)
      have S3:=cell_of (i:=3) hs1.head rfl;have F3:=free_of (i:=3) hs1.head;have HS2:=h_ hs2;have HM2:=h_ hm2;have HK1:=h_ (hk1.trans (kd.mono fun _ _ e=>.inl e))
      clear hs1 hm1 hs2 hm2 hk1 kd hdp hmo;go_wp2_with fail;generalize wr.setCell ⟨d,3,none⟩ (.int .i64 (si.depth+1))=V at HS2 HM2 HK1 ⊢;clear S3 F3 hw2;have C0:=cell_of (i:=0) HS2.out.head rfl;have hP:=h_ (stk_place V.drew d b { si with depth:=si.depth+1 } 0 (HS2.out.keeps (kd_ V) id) (by omega) (by omega))
      have hS:=h_ fun W (k:Keeps (fun _=>False) V.drew W)=>mem_setCell W b bb mi (Stk.place { si with depth:=si.depth+1 } 0) n ((HM2.out.keeps (kd_ V) id id).keeps k id id)
      have ND:=h_ ne.2
      go_region_held3 (fun w'=>w'.cell? ⟨d,0,none⟩=some (.pointer (some ⟨b,0,none⟩)))
       (first | go_keep | exact k4.cell C0 id | exact k5.cell (k4.cell C0 id) ND.out)
       (first
         | (go_at_call 145;refine hP.out.mono ?_;rintro e w4 ⟨rfl,k4⟩)
         | (go_at_call 85;refine (hS.out w4 k4).mono ?_;rintro e w5 ⟨rfl,m5,k5⟩))
      have M5:=h_ m5;have S5:=h_ ((HS2.out.keeps ((kd_ V).trans k4) id).keeps k5 ND.out);have K5:=h_ ((HK1.out.trans (((Keeps.drew _ V).trans k4).mono (fun _ _ e=>e.elim))).trans (k5.mono fun _ _ e=>.inr e))
      clear m5 k4 k5 C0 hP hS;go_wp2_with fail
      go_roundw
      case rel=>exact ⟨i+1,by go_num,by omega,by rw [HSN.out];exact M5.out,by rw [HSN.out];exact S5.out,K5.out⟩
      case measure=>simp [intOf];omega
    · have hge:i=L.length:=by omega
      subst hge;rw [List.take_length] at hm1 hs1;have M1:=h_ hm1;have S1:=h_ hs1;have K1:=h_ hk1;clear hm1 hs1 hk1;go_wp2_with fail;go_ret
      exact ⟨rfl,M1.out,S1.out,K1.out⟩
theorem stk_all (w:World) (d b bb:Nat) (s:Stk) (m:Mem) (h:RStk w d b s) (hm:RMem w b bb m) :
 Calls Tryz.prog 20 #[.pointer (some ⟨d,0,none⟩)] w fun e w'=>∃ a c,e=.returned (.slice a (Stk.all m s).length c)∧OwnI w w' a c (Stk.all m s)∧Keeps (fun _=>False) w w':=by
 have hok:=h.ok;unfold Stk.Ok at hok;obtain ⟨n,hn⟩:∃ n:Nat,s.depth=n:=⟨s.depth.toNat,by omega⟩
 have hall:Stk.all m s=(List.range n).map fun (i:Nat)=>(Stk.at_ m s (s.depth-1-i)).1:=by
  unfold Stk.all;rw [hn,Int.toNat_natCast]
 have HAL:=h_ hall;have hD:=stk_depth w d b s h;rw [hn] at hD;have HD:=h_ hD;have H:=h_ h;have HM:=h_ hm;have HNN:=h_ hn;have hn6:n≤1048576:=by omega
 clear h hm hall hD hn hok
 go_enter Tryz.func20,Tryz.ntmps20
 go_wp2_with fail;refine HD.out.mono ?_;rintro e w1 ⟨rfl,rfl⟩;go_wp2_with fail
 go_loopw [3,9] (fun sv iv wr=>∃ (i:Nat) (a:Option Addr) (c:Nat) (P:List Int),sv=.slice a P.length c∧iv=.int .i64 i∧i≤n∧P=((List.range i).map fun (q:Nat)=>(Stk.at_ m s (s.depth-1-q)).1)∧OwnI w wr a c P∧Keeps (fun _=>False) w wr) (fun _ iv _=>n-(intOf iv).toNat)
 case atStart=>exact ⟨0,none,0,[],rfl,rfl,Nat.zero_le _,rfl,OwnI.nil _ _,Keeps.refl _ _⟩
 case round =>
  obtain ⟨i,a,c,P,rfl,rfl,hi,hP,ho,hk⟩:=hrel;have HO:=h_ ho;have HK:=h_ hk;have HP:=h_ hP;have hPl:P.length=i:=by rw [hP];simp
  have HPL:=h_ hPl;clear ho hk hP hPl;by_cases hlt:i<n
  · have hi0:(0:Int)≤(i:Int):=by omega
    have c3:=cell_of (i:=3) (H.out.keeps HK.out id).head rfl;have hb:=H.out.ok;unfold Stk.Ok at hb;have hw1:IntKind.i64.wrap (s.depth-1)=s.depth-1:=IntWalk.i64_in _ (by omega)
    have hw2:IntKind.i64.wrap (s.depth-1-(i:Int))=s.depth-1-i:=IntWalk.i64_in _ (by have:=HNN.out;omega)
    have hAt:=h_ (stk_at wr d b bb s m (s.depth-1-i) (H.out.keeps HK.out id) (HM.out.keeps HK.out id id));generalize hx:Stk.at_ m s (s.depth-1-i)=r at hAt;have HX:=h_ hx;clear hb hx;go_wp2_with fail;refine hAt.out.mono ?_;rintro e w2 ⟨rfl,k2⟩;have K2:=h_ (HK.out.trans k2);have O2:=h_ (HO.out.keeps k2 (fun _ _=>id))
    clear k2 c3 hw1 hw2 hAt;obtain ⟨x,y⟩:=r
    go_wp2_with (first
     | (at_builtin;refine wpList_app rfl _ _ 22 rfl 2 _ 1 8 Tryz.underlying22 infoInt rfl (by decide) a P.length c (intV P) rfl ?t1 ⟨w2.heap.size,0,none⟩ 1 1 [.int .i64 x] rfl rfl (int_news w2 x) (int_one x) ?t3 ?t4 ?_))
    case t1=>exact O2.out.1.keeps (ka_ w2 _) (fun _ _=>id)
    case t3=>have:=HPL.out;unfold maxLen;omega
    case t4=>have:=HPL.out;omega
    intro a4 c4 w4 o4 k4 l4;have hsz:=K2.out.size;have ka:=ka_ w2 (.cells #[.int .i64 x] 2);have O4:=h_ ((O2.out.keeps ka (fun _ _=>id)).more x o4 _ l4 (by omega))
    have K4:=h_ ((K2.out.trans ka).trans' k4 (fun i hi e=>absurd (O2.out.2 i e) (by omega)))
    clear ka o4 k4 l4;go_wp2_with fail
    go_roundw
    case rel=>exact ⟨i+1,a4,c4,P++[x],by rw [List.length_append];rfl,by go_num,by omega,by rw [List.range_succ,List.map_append,← HP.out];simp [HX.out],O4.out,K4.out⟩
    case measure=>simp [intOf];omega
  · have hge:i=n:=by omega
    subst hge;go_wp2_with fail;go_ret
    rw [show Stk.all m s=P from HAL.out.trans HP.out.symm]
    exact ⟨a,c,rfl,HO.out,HK.out⟩
theorem stk_new (w:World) (b bb:Nat) (m:Mem) (fr n ov un:Int) (hm:RMem w b bb m) (f0:0≤fr) (f8:fr % 8=0) (n0:0≤n) (n1:n≤1048576) (ht:fr+n*8≤m.size) (ho:ov≠0) (hu:un≠0) :
 Calls Tryz.prog 125 #[.pointer (some ⟨b,0,none⟩),.int .i64 fr,.int .i64 n,.int .i64 ov,.int .i64 un] w fun e w'=>∃ d,e=.returned (.tuple #[.pointer (some ⟨d,0,none⟩),.int .i64 0])∧RStk w' d b ⟨fr,n,0,ov,un⟩∧w.heap.size≤d∧Keeps (fun _=>False) w w':=by
 have hle:=hm.le;have HS:=h_ (mem_size w b bb m hm);have d1:decide (fr<0)=false:=decide_eq_false (by omega)
 have e8:fr.tmod 8=0:=by rw [Int.tmod_eq_emod_of_nonneg f0];exact f8
 have d3:decide (n<0)=false:=decide_eq_false (by omega)
 have hw:IntKind.i64.wrap ((m.size:Int)-fr)=(m.size:Int)-fr:=IntWalk.i64_in _ (by omega)
 have hq:((m.size:Int)-fr).tdiv 8=((m.size:Int)-fr) / 8:=Int.tdiv_eq_ediv_of_nonneg (by omega)
 have d4:decide (((m.size:Int)-fr) / 8<n)=false:=decide_eq_false (by omega)
 have hbd:0≤(m.size:Int)-fr:=by omega
 have OK:=h_ (show Stk.Ok ⟨fr,n,0,ov,un⟩ from ⟨f0,by show fr≤_;omega,Int.le_refl _,n0,n1,hu,ho⟩)
 clear hm
 go_enter Tryz.func125,Tryz.ntmps125
 go_wp2_with fail;refine HS.out.mono ?_;rintro e w1 ⟨rfl,rfl⟩;go_wp2_with fail;go_ret2
 refine ⟨w.heap.size,rfl,⟨halloc_at w _,OK.out⟩,Nat.le_refl _,Keeps.alloc _ _ _⟩
set_option maxHeartbeats 2000000
theorem ArgI.get {w:World} {g o:Nat} {L:List Int} (h:ArgI w (some ⟨g,o,none⟩) L) {i:Nat} (hi:i<L.length):w.cell? ⟨g,o+i,none⟩=some (.int .i64 L[i]):=by
 obtain ⟨g',o',e,hc⟩:=h i hi
 cases e
 exact hc
theorem eq_nil (w:World) (a b:Option Addr) (ca cb:Nat):Calls Tryz.prog 19 #[.slice a 0 ca,.slice b 0 cb] w fun e w'=>e=.returned (.bool true)∧Keeps (fun _=>False) w w':=by
 go_enter Tryz.func19,Tryz.ntmps19
 go_wp2_with fail
 go_loopw [13] (fun i wr=>i=.int .i64 0∧Keeps (fun _=>False) w wr) (fun _ _=>0)
 case atStart=>exact ⟨rfl,Keeps.refl _ _⟩
 case round =>
  obtain ⟨rfl,hk⟩:=hrel;go_wp2_with fail;go_ret
  exact ⟨rfl,hk⟩
theorem eq_same (w:World) (g o g' o' ca cb:Nat) (L:List Int) (hl:L.length≤1000000) (hA:ArgI w (some ⟨g,o,none⟩) L) (hB:ArgI w (some ⟨g',o',none⟩) L) :
 Calls Tryz.prog 19 #[.slice (some ⟨g,o,none⟩) L.length ca,.slice (some ⟨g',o',none⟩) L.length cb] w fun e w'=>e=.returned (.bool true)∧Keeps (fun _=>False) w w':=by
 have HA:=h_ hA;have HB:=h_ hB;clear hA hB
 go_enter Tryz.func19,Tryz.ntmps19
 go_wp2_with fail
 go_loopw [13] (fun iv wr=>∃ i:Nat,iv=.int .i64 i∧i≤L.length∧Keeps (fun _=>False) w wr) (fun iv _=>L.length-(intOf iv).toNat)
 case atStart=>exact ⟨0,rfl,by omega,Keeps.refl _ _⟩
 case round =>
  obtain ⟨i,rfl,hi,hk⟩:=hrel;by_cases hlt:i<L.length
  · have c0:=hk.cell (HA.out.get hlt) id
    have c1:=hk.cell (HB.out.get hlt) id;generalize L[i]=v at c0 c1;have hi0:(0:Int)≤(i:Int):=by omega
    have HK:=h_ hk;clear hk;go_wp2_with fail
    go_quiet (fail)
    go_wp2_with fail
    go_roundw
    case rel=>exact ⟨i+1,by go_num,by omega,HK.out.trans (Keeps.drewN _ _ _)⟩
    case measure=>simp [intOf];omega
  · go_wp2_with fail
    go_ret
    exact ⟨rfl,hk⟩
theorem eq_rows (w:World) (a b:Option Addr) (ca cb:Nat) (L:List Int) (hl:L.length≤1000000) (hA:ArgI w a L) (hB:ArgI w b L) :
 Calls Tryz.prog 19 #[.slice a L.length ca,.slice b L.length cb] w fun e w'=>e=.returned (.bool true)∧Keeps (fun _=>False) w w':=by
 cases L with
 | nil=>exact eq_nil w a b ca cb
 | cons v L =>
  obtain ⟨g,o,rfl,_⟩:=hA 0 (by simp)
  obtain ⟨g',o',rfl,_⟩:=hB 0 (by simp)
  exact eq_same w g o g' o' ca cb (v :: L) hl hA hB
end Go.Proofs.Shed
