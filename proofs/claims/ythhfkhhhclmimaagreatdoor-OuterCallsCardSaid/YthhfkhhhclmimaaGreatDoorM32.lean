/- Of CallsG: WMacD, OutS, WOutF, WOutG, WOutB, WFv, WFvA, WFvB, WFvC, WFvD, WFvE, WFvF, WFvG. No condition. -/
import Derived.Test.YthhfkhhhclmimaaGreatDoorM31
set_option linter.unusedVariables false
set_option linter.unusedSimpArgs false
set_option maxRecDepth 10000
set_option maxHeartbeats 4000000
namespace Go.Proofs.Shed
open Go Go.RowKit Go.Proofs.K Go.Proofs.Cod
theorem zero_fn (w:World):(zeroValue 237).run Tryz.prog w=.ok .nilFunc w:=by kernel_rfl
end Go.Proofs.Shed
namespace Go.Proofs.Shed
open Go Go.RowKit Go.Proofs.K
structure Oc where
 mach:Nat
 src:Nat
 ord:Value
 marks:Value
 comp:Bool
 meth:Bool
 open_:Wd
 last:Wd
 here:Int
 list:Int
 is:Bool
 prims:Nat
 more:Nat
 reset:Value
def Oc.cells (o:Oc):Array Value:=#[.pointer (some ⟨o.mach,0,none⟩),.pointer (some ⟨o.src,0,none⟩),o.ord,o.marks,.bool o.comp,.bool o.meth,.int .i64 o.open_.at_,.int .i64 o.open_.xt,.int .i64 o.open_.flags,.string ⟨o.open_.name.toArray⟩,
 .int .i64 o.last.at_,.int .i64 o.last.xt,.int .i64 o.last.flags,.string ⟨o.last.name.toArray⟩,.int .i64 o.here,.int .i64 o.list,.bool o.is,.map (some o.prims),.map (some o.more),o.reset]
def ROc (w:World) (g:Nat) (o:Oc):Prop:=w.heap[g]?=some (.cells o.cells 59 (0,0))
theorem ROc.keeps {w w':World} {g:Nat} {o:Oc} (h:ROc w g o) {S:Nat→Prop} (k:Keeps S w w') (n:¬ S g):ROc w' g o:=k.heap h n
theorem ROc.c17 {w:World} {g:Nat} {o:Oc} (h:ROc w g o):w.cell? ⟨g,17,none⟩=some (.map (some o.prims)):=cell_of h rfl
theorem ROc.c18 {w:World} {g:Nat} {o:Oc} (h:ROc w g o):w.cell? ⟨g,18,none⟩=some (.map (some o.more)):=cell_of h rfl
theorem ROc.free {w:World} {g:Nat} {o:Oc} (h:ROc w g o) (i:Nat):w.frozen? ⟨g,i,none⟩=false:=free_of h
end Go.Proofs.Shed
namespace Go.Proofs.Shed
open Go Go.RowKit Go.Proofs.K Go.Proofs.Cod
theorem Mem.text_len (m:Mem) (a n:Int):(m.text a n).1.length≤n.toNat:=by
 unfold Mem.text;split
 · rw [bytesN_len];exact Nat.le_refl _
 · exact Nat.zero_le _
theorem Mem.readWd_name {m:Mem} {a:Int} {d:Wd} {l:Int} (e:m.readWd a=some (d,l)):d.name.length≤31:=by
 unfold Mem.readWd at e;simp only at e
 split at e
 · cases e
 · rename_i h1
   split at e
   · cases e
   · injection e with e
     injection e with e _
     have:=Mem.text_len m (a+16) ((m.cell (a+8)).1 % 256);rw [← e];simp only
     omega
theorem Mem.wordsN_name (m:Mem) (k:Nat):∀ last a,∀ d ∈ m.wordsN k last a,d.name.length≤31:=by
 induction k with
 | zero=>intro _ _ d h;cases h
 | succ k ih =>
  intro last a d h;unfold Mem.wordsN at h;split at h
  · split at h
    · rename_i w l e
      rcases List.mem_cons.1 h with rfl | h
      · exact Mem.readWd_name e
      · exact ih _ _ _ h
    · cases h
  · cases h
theorem Mem.words_name (m:Mem) (list:Int):∀ d ∈ m.words list,d.name.length≤31:=by
 intro d h;unfold Mem.words at h;split at h
 · cases h
 · exact Mem.wordsN_name _ _ _ _ _ h
def xtOf (f:List UInt8→Option Value) (d:Wd):List UInt8→Option Value:=upd f d.name (.int .i64 d.xt)
theorem last_alloc {w:World} {o:Obj} {n:Nat} (h:w.heap.size=n):(w.alloc o).heap[n]?=some o:=by rw [← h];exact halloc_at w o
theorem older_alloc {w:World} {o x:Obj} {n:Nat} (h:w.heap[n]?=some x):(w.alloc o).heap[n]?=some x:=(halloc_old w o (lt_of_heap h)).trans h
theorem older_drew {w:World} {x:Obj} {n:Nat} (h:w.heap[n]?=some x):w.drew.heap[n]?=some x:=h
theorem drew_heap (w:World):w.drew.heap=w.heap:=rfl
def oc0 (mb q la m1 m2:Nat):Oc:=⟨mb,q,.slice (some ⟨la,0,none⟩) 1 1,.slice none 0 0,false,false,Wd.none,Wd.none,0,0,false,m1,m2,.nilFunc⟩
theorem own_row (w:World) (e:TypeId) (xs:List Value) (g n:Nat) (h:w.heap[g]?=some (.cells xs.toArray e (0,0))) (hl:xs.length=n) (hn:n≤maxLen):Own w e 1 (some ⟨g,0,none⟩) n n xs:=by
 refine ⟨by simpa using hl,.inr ⟨g,n,xs.toArray,rfl,Nat.zero_le _,h,Nat.le_refl _,hn,by simpa using hl,?_⟩⟩
 simp [← hl]
def MadeS (w:World) (mb:Nat) (list:Int) (v:Value) (wx:World):Prop :=
 ∃ g q la m1 m2:Nat,v=.pointer (some ⟨g,0,none⟩)∧ROc wx g (oc0 mb q la m1 m2)∧wx.heap[la]?=some (.cells #[.int .i64 list] 2 (0,0))∧wx.heap[m1]?=some (.map #[] 0)∧wx.heap[m2]?=some (.map #[] 0)∧m1≠m2 ∧
  w.heap.size≤g∧w.heap.size≤la∧w.heap.size≤m1∧w.heap.size≤m2∧Keeps (fun _=>False) w wx∧w.heap.size≤q∧RSrc wx q [] 0
def OuterPostS (w:World) (mb:Nat) (list:Int) (L:List Wd) (e:Ending) (w':World):Prop :=
 ∃ g q la m1 m2:Nat,e=.returned (.pointer (some ⟨g,0,none⟩))∧ROc w' g (oc0 mb q la m1 m2)∧Own w' 2 1 (some ⟨la,0,none⟩) 1 1 [.int .i64 list]∧MapIs sk w' m1 L.length (L.foldl xtOf (fun _=>none))∧MapIs sk w' m2 0 (fun _=>none)∧m1≠m2 ∧
  w.heap.size≤g∧w.heap.size≤la∧w.heap.size≤m1∧w.heap.size≤m2∧Keeps (fun _=>False) w w'∧w.heap.size≤q∧RSrc w' q [] 0
theorem outer_news (w:World) (mb s b bb:Nat) (c:Mc) (x:Sp) (hc:RMc w mb c) (hs:c.sp=some s) (hx:RSp w s b bb x) :
 Calls Tryz.prog 16 #[.pointer (some ⟨mb,0,none⟩)] w (OuterPostS w mb c.list (x.mem.words c.list)):=by
 have hmm:=@run_makeMap Tryz.prog;have HC:=h_ hc;have HX:=h_ hx;have m8:w.cell? ⟨mb,8,none⟩=some (.int .i64 c.list):=hc.c8;have HN:=h_ fun V=>src_new V [] (by decide)
 clear hc hx
 go_enter Tryz.func16,Tryz.ntmps16
 go_wp2_with fail
 go_cut [3] (fun v3 wx=>MadeS w mb c.list v3 wx)
 case first =>
  go_region_held3 (fun w'=>w'.cell? ⟨mb,8,none⟩=some (.int .i64 c.list))
   (first | (repeat (first | exact p4 | exact m8 | refine (ka_ _ _).cell ?_ id | refine (kd_ _).cell ?_ id)))
   (first
     | (go_at_call 74;refine (HN.out _).mono ?_;rintro e w4 ⟨rfl,sr,k4⟩;dsimp only
        have ks:Keeps (fun _=>False) w w4:=by
         refine Keeps.trans ?_ k4
         repeat (first | exact Keeps.refl _ _ | refine Keeps.trans ?_ (Keeps.alloc _ _ _) | refine Keeps.trans ?_ (Keeps.drew _ _))
        have p4:w4.cell? ⟨mb,8,none⟩=some (.int .i64 c.list):=ks.cell m8 id
        have s4:=k4.size))
  all_goals
   go_wp2_with fail
   go_meet
   have s0:=ks.size;have e9:w4.heap.toList.length=w4.heap.size:=rfl;have e8:w.heap.toList.length=w.heap.size:=rfl;have s4:=k4.size;simp only [drew_heap,World.size_alloc] at s4
   (try simp only [drew_heap,World.size_alloc] at sr)
   refine ⟨_,_,_,_,_,rfl,last_alloc ?_,?_,?_,?_,?_,?_,?_,?_,?_,?_,?_⟩
   · first | rfl | (simp only [World.size_alloc];done)
   rotate_left 3
   · show ¬ (_:Nat)=_
     omega
   · omega
   · omega
   · omega
   · omega
   · refine Keeps.trans ks ?_
     repeat (first | exact Keeps.refl _ _ | refine Keeps.trans ?_ (Keeps.alloc _ _ _))
   · refine ⟨by first | omega | (simp only [drew_heap,World.size_alloc];omega),RSrc.keeps sr (S:=fun _=>False) ?_ id⟩
     repeat (first | exact Keeps.refl _ _ | refine Keeps.trans ?_ (Keeps.alloc _ _ _))
   all_goals
    repeat (first | (refine last_alloc ?_;(first | rfl | (simp only [World.size_alloc];done))) | refine older_alloc ?_ | refine k4.heap ?_ id | refine older_drew ?_)
 case rest =>
  obtain ⟨g,q,la,m1,m2,rfl,hro,hla,hm1,hm2,hne,l1,l2,l3,l4,kc,lq,hsr⟩:=hcut;have LQ:=h_ lq;have HSR:=h_ hsr;have HRO:=h_ hro;have HLA:=h_ hla;have HM1:=h_ hm1;have HM2:=h_ hm2;have HL:=h_ (And.intro hne (And.intro (And.intro l1 l2) (And.intro l3 l4)));have KC:=h_ kc;have RC:=h_ (HC.out.keeps kc id);have RX:=h_ (HX.out.keeps kc id id id);have n8:wc.cell? ⟨mb,8,none⟩=some (.int .i64 c.list):=kc.cell m8 id;have n0:wc.cell? ⟨mb,0,none⟩=some (.pointer (some ⟨s,0,none⟩)):=by rw [RC.out.c0,hs];rfl
  have ns:=RX.out.c0;clear lq hsr hro hla hm1 hm2 hne l1 l2 l3 l4 kc HN m8;go_wp2_with fail;obtain ⟨wa,hwa⟩:∃ wa,wa=wc:=⟨_,rfl⟩;subst hwa;have HWD:=h_ fun V (k:Keeps (fun _=>False) wa V)=>head_words V b bb x.mem c.list (RX.out.mem.keeps k id id)
  have hwl:=Mem.words_len x.mem c.list;have HWN:=h_ (Mem.words_name x.mem c.list);have hms:=RX.out.mem.le;generalize hLe:x.mem.words c.list=L at HWD hwl HWN;have HLE:=h_ hLe;clear hLe
  go_cut [30,31,32] (fun v30 v31 v32 wx=>∃ a cc,v30=.slice a L.length cc∧v31=.int .i64 L.length∧v32=.int .i64 0∧OwnWds wa wx a cc L∧Keeps (fun _=>False) wa wx)
  case first =>
   go_region_held3 (fun w'=>w'.cell? ⟨mb,8,none⟩=some (.int .i64 c.list)∧w'.cell? ⟨mb,0,none⟩=some (.pointer (some ⟨s,0,none⟩))∧w'.cell? ⟨s,0,none⟩=some (.pointer (some ⟨b,0,none⟩)))
    (first | go_keep)
    (first
      | (go_at_call 75;refine (HWD.out wa.drew (Keeps.drew _ _)).mono ?_;rintro e w4 ⟨a4,c4,rfl,o4,k4⟩;dsimp only
         have ks:=(kd_ wa).trans k4;have p8:=ks.cell n8 id;have p0:=ks.cell n0 id
         have ps:=ks.cell ns id))
   all_goals
    go_wp2_with fail
    go_meet
    exact ⟨a4,c4,rfl,rfl,rfl,o4,ks⟩
  case rest =>
   obtain ⟨a4,c4,rfl,rfl,rfl,o4,k4⟩:=hcut;have O4:=h_ o4;have K4:=h_ (KC.out.trans k4);have hm1l:=lt_of_heap HM1.out;have hgl:=lt_of_heap HRO.out;have hgm:g≠m1:=fun e=>by have:=HRO.out;unfold ROc at this;rw [e,HM1.out] at this;cases this
   have hlm:la≠m1:=fun e=>by have:=HLA.out;rw [e,HM1.out] at this;cases this
   have M1:=h_ (MapIs.empty sk (k4.heap HM1.out id));have RO:=h_ (ROc.keeps HRO.out k4 id);have RQ:=h_ (RSrc.keeps HSR.out k4 id);have hqm:q≠m1:=fun e=>by have:=HSR.out.head;rw [e,HM1.out] at this;cases this
   have LA:=h_ (k4.heap HLA.out id);have M2:=h_ (k4.heap HM2.out id);have H4:=h_ (show wa.heap.size≤wc.heap.size from k4.size)
   clear o4 k4 HSR HRO HLA HM1 HM2 RC RX n8 n0 ns HC HX HWD;go_wp2_with fail
   go_loopw [32] (fun iv wr=>∃ i:Nat,iv=.int .i64 i∧i≤L.length∧MapIs sk wr m1 i ((L.take i).foldl xtOf (fun _=>none))∧Keeps (fun k=>k=m1) wc wr) (fun iv _=>L.length-(intOf iv).toNat)
   case atStart=>exact ⟨0,rfl,Nat.zero_le _,M1.out,Keeps.refl _ _⟩
   case round =>
    obtain ⟨i,rfl,hi,hmap,hk⟩:=hrel;have HMP:=h_ hmap;have HK:=h_ hk;clear hmap hk;by_cases hlt:i<L.length
    · have hi0:(0:Int)≤(i:Int):=by omega
      obtain ⟨g4,rfl,hg4,y0,y1,y2,y3⟩:=(O4.out.keeps HK.out (fun gg hgg e=>by have:=O4.out.2 gg hgg;have e:gg=m1:=e;omega)).at hlt
      have HNM:=h_ (HWN.out _ (List.getElem_mem hlt));have HTK:=h_ (show L.take (i+1)=L.take i++[L[i]] from by simp)
      generalize L[i]=d at y0 y1 y2 y3 HNM HTK;obtain ⟨da,dx,df,dn⟩:=d;simp only at y0 y1 y2 y3
      go_wp2_with fail;have ka:=ka_ wr (.cells #[.int .i64 da,.int .i64 dx,.int .i64 df,.string ⟨dn.toArray⟩] 53);have hz:=halloc_at wr (.cells #[.int .i64 da,.int .i64 dx,.int .i64 df,.string ⟨dn.toArray⟩] 53);have hrs:=HK.out.size;have h4:=H4.out;obtain ⟨gz,hgz⟩:∃ gz,gz=wr.heap.size:=⟨_,rfl⟩;rw [← hgz] at hz ⊢;have hz1:¬ gz=m1:=by omega
      generalize wr.alloc (.cells #[.int .i64 da,.int .i64 dx,.int .i64 df,.string ⟨dn.toArray⟩] 53)=V at ka hz ⊢;have z1:V.cell? ⟨gz,1,none⟩=some (.int .i64 dx):=cell_of hz rfl;have z3:V.cell? ⟨gz,3,none⟩=some (.string ⟨dn.toArray⟩):=cell_of hz rfl;have KV:=h_ (HK.out.trans (ka.mono (fun _ _ e=>e.elim)))
      have g17:V.cell? ⟨g,17,none⟩=some (.map (some m1)):=(RO.out.keeps KV.out hgm).c17;obtain ⟨w8,hrun,hp8,k8⟩:=map_run sk 56 _ Tryz.underlying56 ((HMP.out.keeps ka id).keeps (kd_ V) id) (show i<maxLen by unfold maxLen;omega) dn (show dn.length≤maxLen from Nat.le_trans HNM.out (by unfold maxLen;omega)) (.int .i64 dx)
      have hrun:(Instr.mapUpdate 56 (.map (some m1)) (.string ⟨dn.toArray⟩) (.int .i64 dx)).run Tryz.prog V.drew=.ok () w8:=hrun;have kd:=(Keeps.drew (fun k=>k=m1) V).trans k8
      have KF:=h_ (KV.out.trans kd);have HP8:=h_ hp8;have h17:w8.cell? ⟨g,17,none⟩=some (.map (some m1)):=kd.cell g17 hgm;have h1z:w8.cell? ⟨gz,1,none⟩=some (.int .i64 dx):=kd.cell z1 hz1;have h3z:w8.cell? ⟨gz,3,none⟩=some (.string ⟨dn.toArray⟩):=kd.cell z3 hz1;clear hz ka hgz hp8 k8 kd y0 y1 y2 y3
      go_region_held3 (fun w'=>w'.cell? ⟨g,17,none⟩=some (.map (some m1))∧w'.cell? ⟨gz,1,none⟩=some (.int .i64 dx)∧w'.cell? ⟨gz,3,none⟩=some (.string ⟨dn.toArray⟩))
       (first | exact ⟨h17,h1z,h3z⟩ | go_keep)
       (fail)
      go_wp2_with fail
      go_roundw
      case rel =>
       refine ⟨i+1,rfl,hlt,?_,KF.out⟩;rw [HTK.out,List.foldl_append];exact HP8.out
      case measure=>simp [intOf];omega
    · have he:i=L.length:=by omega
      subst he;have HPF:=HMP.out;rw [List.take_length] at HPF;have HPF:=h_ HPF;have ROF:=h_ (RO.out.keeps HK.out hgm);have LAF:=h_ (HK.out.heap LA.out hlm);have M2F:=h_ (HK.out.heap M2.out (fun e=>HL.out.1 (by have e:m2=m1:=e;exact e.symm)))
      have KK:=h_ (K4.out.trans' HK.out (fun i hi e=>by have:=HL.out.2.2.1;have e:i=m1:=e;omega))
      go_wp2_with fail;go_ret
      rw [HLE.out];exact ⟨g,q,la,m1,m2,rfl,ROF.out,own_row _ _ [_] _ _ LAF.out rfl (by decide),HPF.out,MapIs.empty sk M2F.out,HL.out.1,HL.out.2.1.1,HL.out.2.1.2,HL.out.2.2.1,HL.out.2.2.2,KK.out,LQ.out,RQ.out.keeps HK.out hqm⟩
theorem RVm.withPush {X:Nat→Prop} {w w':World} {mb s b bb db rb:Nat} {c:Mc} {x:Sp} {d d' r:Stk} {m:Mem} (h:RVm X w mb s b bb db rb c x d r) (k:Keeps (fun g=>g=db∨g=bb) w w') (hd:RStk w' db b d') (hm:RMem w' b bb m) (hs:m.size=x.mem.size):RVm X w' mb s b bb db rb c { x with mem:=m } d' r:=by
 obtain ⟨⟨n1,n2,n3,n4,n5⟩,⟨m1,m2,m3,m4⟩,⟨r1,r2,r3⟩,⟨e1,e2,e3,e4,e5⟩⟩:=h.ne;have no:∀ {g:Nat},g≠db→g≠bb→¬ (g=db∨g=bb):=fun h1 h2 e=>by rcases e with e | e;exact h1 e;exact h2 e
 refine ⟨h.mc.keeps k (no n4 n3),h.csp,h.cdk,h.crk,⟨k.heap h.sp.head (no (fun e=>m1 e.symm) h.sp.ne2),hm,h.sp.ne1,h.sp.ne2,?_⟩,hd,h.rk.keeps k (no (fun e=>m4 e.symm) r3),h.does.keeps k (no e4 e3) (fun g hg=>no (h.nx g hg).2.2.2.1 (h.nx g hg).2.2.1),h.nx,⟨⟨n1,n2,n3,n4,n5⟩,⟨m1,m2,m3,m4⟩,⟨r1,r2,r3⟩,⟨e1,e2,e3,e4,e5⟩⟩⟩
 obtain ⟨o1,o2,o3,o4⟩:=h.sp.ok;exact ⟨o1,o2,o3,by show x.to≤(m.size:Int);rw [hs];exact o4⟩
theorem push_size (m:Mem) (s:Stk) (L:List Int):(Stk.push m s L).1.size=m.size:=by
 unfold Stk.push;split
 · rfl
 · exact Stk.pushN_size _ _ _
structure Bk where
 mb:Nat
 s:Nat
 b:Nat
 bb:Nat
 db:Nat
 rb:Nat
 hb:Nat
 nb:Nat
 pb:Nat
 X:Nat→Prop
def VM.mc (v:VM) (K:Bk):Mc:=⟨some K.s,some K.db,some K.rb,some K.hb,K.nb,v.ip,v.self,v.root,v.list,v.slots,v.fuel,v.out,v.inp,v.over,v.base,v.caught,v.handler,K.pb⟩
structure VM.Ok (v:VM):Prop where
 d8:v.d.from_ % 8=0
 dm:v.d.from_+v.d.most*8≤v.x.mem.size
 r8:v.r.from_ % 8=0
 rm:v.r.from_+v.r.most*8≤v.x.mem.size
 out:v.out.length≤65536
 inp:v.inp.length≤1099511627776
 fuel0 : -9223372036854775808≤v.fuel
 fuel1:v.fuel≤9223372036854775807
 h0:0≤v.handler
 h1:v.handler≤1048576
 lo0:0≤v.hlo
 lt:v.hlo≤v.hto
 top:v.hto≤v.x.mem.size
 root0:0≤v.root
 root1:v.root≤4194304
structure RFv (w:World) (K:Bk) (v:VM):Prop where
 vm:RVm K.X w K.mb K.s K.b K.bb K.db K.rb (v.mc K) v.x v.d v.r
 hp:w.heap[K.hb]?=some (.cells #[.pointer (some ⟨K.b,0,none⟩),.int .i64 v.hlo,.int .i64 v.hto] 298 (0,0))
 ok:v.Ok
 xl:∀ g,K.X g→g<w.heap.size
def Bk.foot (K:Bk) (g:Nat):Prop:=g=K.mb∨g=K.s∨g=K.bb∨g=K.db∨g=K.rb
def PV (K:Bk) (w:World) (q:VM × Int) (e:Ending) (w':World):Prop:=e=.returned (.int .i64 q.2)∧RFv w' K q.1∧Keeps K.foot w w'
def PV2 (K:Bk) (w:World) (q:VM × Int × Int) (e:Ending) (w':World):Prop:=e=.returned (.tuple #[.int .i64 q.2.1,.int .i64 q.2.2])∧RFv w' K q.1∧Keeps K.foot w w'
def PVd (K:Bk) (w:World) (q:VM × Int) (e:Ending) (w':World):Prop:=e=.returned (.int .i64 q.2)∧RFv w' K q.1∧Keeps (fun g=>g=K.db∨g=K.bb) w w'
def PVr (K:Bk) (w:World) (q:VM × Int) (e:Ending) (w':World):Prop:=e=.returned (.int .i64 q.2)∧RFv w' K q.1∧Keeps (fun g=>g=K.rb∨g=K.bb) w w'
theorem ne_type' {w:World} {a b:Nat} {ca cb:Array Value} {ta tb:TypeId} {fa fb:Nat × Nat} (h1:w.heap[a]?=some (.cells ca ta fa)) (h2:w.heap[b]?=some (.cells cb tb fb)) (hne:(ta == tb)=false):a≠b:=by
 rintro rfl;rw [h1] at h2;injection h2 with h2
 injection h2 with _ h2 _
 subst h2;simp at hne
namespace RFv
variable {w w':World} {K:Bk} {v:VM}
theorem hbn (h:RFv w K v):K.hb≠K.mb∧K.hb≠K.s∧K.hb≠K.b∧K.hb≠K.bb∧K.hb≠K.db∧K.hb≠K.rb :=
 ⟨ne_type' h.hp h.vm.mc rfl,ne_type' h.hp h.vm.sp.head rfl,ne_type' h.hp h.vm.sp.mem.head rfl,ne_type' h.hp h.vm.sp.mem.rest rfl,ne_type' h.hp h.vm.dk.head rfl,ne_type' h.hp h.vm.rk.head rfl⟩
theorem keeps0 (h:RFv w K v) (k:Keeps (fun _=>False) w w'):RFv w' K v:=⟨h.vm.keeps0 k,k.heap h.hp id,h.ok,(fun g hg=>Nat.lt_of_lt_of_le (h.xl g hg) k.size)⟩
theorem keeps {S:Nat→Prop} (h:RFv w K v) (k:Keeps S w w') (n:¬ S K.mb∧¬ S K.s∧¬ S K.b∧¬ S K.bb∧¬ S K.db∧¬ S K.rb∧¬ S K.hb∧¬ S K.pb) (nX:∀ g,K.X g→¬ S g):RFv w' K v :=
 ⟨h.vm.keeps k ⟨n.1,n.2.1,n.2.2.1,n.2.2.2.1,n.2.2.2.2.1,n.2.2.2.2.2.1,n.2.2.2.2.2.2.2⟩ nX,k.heap h.hp n.2.2.2.2.2.2.1,h.ok,(fun g hg=>Nat.lt_of_lt_of_le (h.xl g hg) k.size)⟩
theorem lts (h:RFv w K v):K.mb<w.heap.size∧K.s<w.heap.size∧K.b<w.heap.size∧K.bb<w.heap.size∧K.db<w.heap.size∧K.rb<w.heap.size∧K.hb<w.heap.size∧K.pb<w.heap.size:=by
 obtain ⟨nn,g,_,hmm,_⟩:=h.vm.does;exact ⟨lt_of_heap h.vm.mc,lt_of_heap h.vm.sp.head,h.vm.sp.mem.lt.1,h.vm.sp.mem.lt.2,lt_of_heap h.vm.dk.head,lt_of_heap h.vm.rk.head,lt_of_heap h.hp,hmm.lt⟩
theorem m0 (h:RFv w K v):w.cell? ⟨K.mb,0,none⟩=some (.pointer (some ⟨K.s,0,none⟩)):=cell_of h.vm.mc rfl
theorem m1 (h:RFv w K v):w.cell? ⟨K.mb,1,none⟩=some (.pointer (some ⟨K.db,0,none⟩)):=cell_of h.vm.mc rfl
theorem m2 (h:RFv w K v):w.cell? ⟨K.mb,2,none⟩=some (.pointer (some ⟨K.rb,0,none⟩)):=cell_of h.vm.mc rfl
theorem m3 (h:RFv w K v):w.cell? ⟨K.mb,3,none⟩=some (.pointer (some ⟨K.hb,0,none⟩)):=cell_of h.vm.mc rfl
theorem m5 (h:RFv w K v):w.cell? ⟨K.mb,5,none⟩=some (.int .i64 v.ip):=cell_of h.vm.mc rfl
theorem m6 (h:RFv w K v):w.cell? ⟨K.mb,6,none⟩=some (.int .i64 v.self):=cell_of h.vm.mc rfl
theorem m7 (h:RFv w K v):w.cell? ⟨K.mb,7,none⟩=some (.int .i64 v.root):=cell_of h.vm.mc rfl
theorem m8 (h:RFv w K v):w.cell? ⟨K.mb,8,none⟩=some (.int .i64 v.list):=cell_of h.vm.mc rfl
theorem m9 (h:RFv w K v):w.cell? ⟨K.mb,9,none⟩=some (.int .i64 v.slots):=cell_of h.vm.mc rfl
theorem m10 (h:RFv w K v):w.cell? ⟨K.mb,10,none⟩=some (.int .i64 v.fuel):=cell_of h.vm.mc rfl
theorem m11 (h:RFv w K v):w.cell? ⟨K.mb,11,none⟩=some (.string ⟨v.out.toArray⟩):=cell_of h.vm.mc rfl
theorem m12 (h:RFv w K v):w.cell? ⟨K.mb,12,none⟩=some (.string ⟨v.inp.toArray⟩):=cell_of h.vm.mc rfl
theorem m13 (h:RFv w K v):w.cell? ⟨K.mb,13,none⟩=some (.bool v.over):=cell_of h.vm.mc rfl
theorem m15 (h:RFv w K v):w.cell? ⟨K.mb,15,none⟩=some (.int .i64 v.caught):=cell_of h.vm.mc rfl
theorem m16 (h:RFv w K v):w.cell? ⟨K.mb,16,none⟩=some (.int .i64 v.handler):=cell_of h.vm.mc rfl
theorem m17 (h:RFv w K v):w.cell? ⟨K.mb,17,none⟩=some (.map (some K.pb)):=cell_of h.vm.mc rfl
theorem ms (h:RFv w K v):w.cell? ⟨K.s,0,none⟩=some (.pointer (some ⟨K.b,0,none⟩)):=h.vm.sp.c0
theorem free (h:RFv w K v) (i:Nat):w.frozen? ⟨K.mb,i,none⟩=false:=free_of h.vm.mc
theorem withMc {v':VM} (h:RFv w K v) (k:Keeps (fun g=>g=K.mb) w w') (hc:RMc w' K.mb (v'.mc K)) (e:v'.x=v.x∧v'.d=v.d∧v'.r=v.r∧v'.hlo=v.hlo∧v'.hto=v.hto) (ok:v'.Ok):RFv w' K v':=by
 obtain ⟨e1,e2,e3,e4,e5⟩:=e;have h1:=h.vm.withMc k hc ⟨rfl,rfl,rfl,rfl⟩;rw [← e1,← e2,← e3] at h1;exact ⟨h1,by rw [e4,e5];exact k.heap h.hp h.hbn.1,ok,(fun g hg=>Nat.lt_of_lt_of_le (h.xl g hg) k.size)⟩
theorem setIp (h:RFv w K v) (n:Int):RFv (w.setCell ⟨K.mb,5,none⟩ (.int .i64 n)) K { v with ip:=n }:=h.withMc (Keeps.setCell _ _ _ (fun _=>rfl)) (hset_same h.vm.mc _) ⟨rfl,rfl,rfl,rfl,rfl⟩ { h.ok with }
theorem setSelf (h:RFv w K v) (n:Int):RFv (w.setCell ⟨K.mb,6,none⟩ (.int .i64 n)) K { v with self:=n }:=h.withMc (Keeps.setCell _ _ _ (fun _=>rfl)) (hset_same h.vm.mc _) ⟨rfl,rfl,rfl,rfl,rfl⟩ { h.ok with }
theorem setFuel (h:RFv w K v) (n:Int) (h0 : -9223372036854775808≤n) (h1:n≤9223372036854775807):RFv (w.setCell ⟨K.mb,10,none⟩ (.int .i64 n)) K { v with fuel:=n }:=h.withMc (Keeps.setCell _ _ _ (fun _=>rfl)) (hset_same h.vm.mc _) ⟨rfl,rfl,rfl,rfl,rfl⟩ { h.ok with fuel0:=h0,fuel1:=h1 }
theorem setOut (h:RFv w K v) (t:List UInt8) (ht:t.length≤65536):RFv (w.setCell ⟨K.mb,11,none⟩ (.string ⟨t.toArray⟩)) K { v with out:=t }:=h.withMc (Keeps.setCell _ _ _ (fun _=>rfl)) (hset_same h.vm.mc _) ⟨rfl,rfl,rfl,rfl,rfl⟩ { h.ok with out:=ht }
theorem setInp (h:RFv w K v) (t:List UInt8) (ht:t.length≤1099511627776):RFv (w.setCell ⟨K.mb,12,none⟩ (.string ⟨t.toArray⟩)) K { v with inp:=t }:=h.withMc (Keeps.setCell _ _ _ (fun _=>rfl)) (hset_same h.vm.mc _) ⟨rfl,rfl,rfl,rfl,rfl⟩ { h.ok with inp:=ht }
theorem setOver (h:RFv w K v) (b:Bool):RFv (w.setCell ⟨K.mb,13,none⟩ (.bool b)) K { v with over:=b }:=h.withMc (Keeps.setCell _ _ _ (fun _=>rfl)) (hset_same h.vm.mc _) ⟨rfl,rfl,rfl,rfl,rfl⟩ { h.ok with }
theorem setHandler (h:RFv w K v) (n:Int) (h0:0≤n) (h1:n≤1048576):RFv (w.setCell ⟨K.mb,16,none⟩ (.int .i64 n)) K { v with handler:=n }:=h.withMc (Keeps.setCell _ _ _ (fun _=>rfl)) (hset_same h.vm.mc _) ⟨rfl,rfl,rfl,rfl,rfl⟩ { h.ok with h0:=h0,h1:=h1 }
theorem withD {d':Stk} (h:RFv w K v) (k:Keeps (fun g=>g=K.db) w w') (hd:RStk w' K.db K.b d') (e:d'.from_=v.d.from_∧d'.most=v.d.most):RFv w' K { v with d:=d' } :=
 ⟨h.vm.withD k hd,k.heap h.hp h.hbn.2.2.2.2.1,{ h.ok with d8:=by show d'.from_ % 8=0;rw [e.1];exact h.ok.d8,dm:=by show d'.from_+d'.most*8≤_;rw [e.1,e.2];exact h.ok.dm },(fun g hg=>Nat.lt_of_lt_of_le (h.xl g hg) k.size)⟩
theorem withR {r':Stk} (h:RFv w K v) (k:Keeps (fun g=>g=K.rb) w w') (hr:RStk w' K.rb K.b r') (e:r'.from_=v.r.from_∧r'.most=v.r.most):RFv w' K { v with r:=r' }:=by
 obtain ⟨⟨n1,n2,n3,n4,n5⟩,⟨m1,m2,m3,m4⟩,⟨r1,r2,r3⟩,n8⟩:=h.vm.ne
 exact ⟨⟨h.vm.mc.keeps k (fun e=>n5 e),h.vm.csp,h.vm.cdk,h.vm.crk,h.vm.sp.keeps k (fun e=>r1 e.symm) (fun e=>r2 e.symm) (fun e=>r3 e.symm),h.vm.dk.keeps k (fun e=>m4 e),hr,h.vm.does.keeps k n8.2.2.2.2 (fun g hg e=>(h.vm.nx g hg).2.2.2.2 e),h.vm.nx,h.vm.ne⟩,k.heap h.hp h.hbn.2.2.2.2.2,
  { h.ok with r8:=by show r'.from_ % 8=0;rw [e.1];exact h.ok.r8,rm:=by show r'.from_+r'.most*8≤_;rw [e.1,e.2];exact h.ok.rm },(fun g hg=>Nat.lt_of_lt_of_le (h.xl g hg) k.size)⟩
theorem withSp {x':Sp} (h:RFv w K v) (k:Keeps (fun g=>g=K.s∨g=K.bb) w w') (hx:RSp w' K.s K.b K.bb x') (e:x'.mem.size=v.x.mem.size):RFv w' K { v with x:=x' }:=by
 obtain ⟨⟨n1,n2,n3,n4,n5⟩,⟨m1,m2,m3,m4⟩,⟨r1,r2,r3⟩,n8⟩:=h.vm.ne;have hb:=h.hbn;have no:∀ {g:Nat},g≠K.s→g≠K.bb→¬ (g=K.s∨g=K.bb):=fun h1 h2 e=>by rcases e with e | e;exact h1 e;exact h2 e
 exact ⟨⟨h.vm.mc.keeps k (no n1 n3),h.vm.csp,h.vm.cdk,h.vm.crk,hx,h.vm.dk.keeps k (no m1 m3),h.vm.rk.keeps k (no r1 r3),h.vm.does.keeps k (no n8.2.1 n8.2.2.1) (fun g hg=>no (h.vm.nx g hg).2.1 (h.vm.nx g hg).2.2.1),h.vm.nx,h.vm.ne⟩,k.heap h.hp (no hb.2.1 hb.2.2.2.1),
  { h.ok with dm:=by show _≤(x'.mem.size:Int);rw [e];exact h.ok.dm,rm:=by show _≤(x'.mem.size:Int);rw [e];exact h.ok.rm,top:=by show _≤(x'.mem.size:Int);rw [e];exact h.ok.top },(fun g hg=>Nat.lt_of_lt_of_le (h.xl g hg) k.size)⟩
theorem withMem {m:Mem} (h:RFv w K v) (k:Keeps (fun g=>g=K.bb) w w') (hm:RMem w' K.b K.bb m) (e:m.size=v.x.mem.size):RFv w' K (v.mem m):=by
 have hs:=h.vm.sp;obtain ⟨o1,o2,o3,o4⟩:=hs.ok;refine h.withSp (x':={ v.x with mem:=m }) (k.mono (fun _ _ e=>.inr e)) ⟨k.heap hs.head hs.ne2,hm,hs.ne1,hs.ne2,⟨o1,o2,o3,?_⟩⟩ e
 show v.x.to≤(m.size:Int)
 rw [e];exact o4
theorem hpc (h:RFv w K v):RHp w K.hb K.b K.bb v.x.mem v.hlo v.hto:=⟨h.hp,h.vm.sp.mem,h.hbn.2.2.1,h.hbn.2.2.2.1,h.ok.lo0,h.ok.lt,h.ok.top⟩
end RFv
theorem foot_mb (K:Bk) {w w':World} (k:Keeps (fun g=>g=K.mb) w w'):Keeps K.foot w w':=k.mono (fun _ _ e=>.inl e)
theorem foot_s (K:Bk) {w w':World} (k:Keeps (fun g=>g=K.s∨g=K.bb) w w'):Keeps K.foot w w':=k.mono (fun _ _ e=>e.elim (fun e=>.inr (.inl e)) (fun e=>.inr (.inr (.inl e))))
theorem foot_bb (K:Bk) {w w':World} (k:Keeps (fun g=>g=K.bb) w w'):Keeps K.foot w w':=k.mono (fun _ _ e=>.inr (.inr (.inl e)))
theorem foot_db (K:Bk) {w w':World} (k:Keeps (fun g=>g=K.db) w w'):Keeps K.foot w w':=k.mono (fun _ _ e=>.inr (.inr (.inr (.inl e))))
theorem foot_rb (K:Bk) {w w':World} (k:Keeps (fun g=>g=K.rb) w w'):Keeps K.foot w w':=k.mono (fun _ _ e=>.inr (.inr (.inr (.inr e))))
theorem foot_dbb (K:Bk) {w w':World} (k:Keeps (fun g=>g=K.db∨g=K.bb) w w'):Keeps K.foot w w':=k.mono (fun _ _ e=>e.elim (fun e=>.inr (.inr (.inr (.inl e)))) (fun e=>.inr (.inr (.inl e))))
theorem foot_rbb (K:Bk) {w w':World} (k:Keeps (fun g=>g=K.rb∨g=K.bb) w w'):Keeps K.foot w w':=k.mono (fun _ _ e=>e.elim (fun e=>.inr (.inr (.inr (.inr e)))) (fun e=>.inr (.inr (.inl e))))
theorem foot0 (K:Bk) {w w':World} (k:Keeps (fun _=>False) w w'):Keeps K.foot w w':=k.mono (fun _ _ e=>e.elim)
theorem stk_push_same (m:Mem) (s:Stk) (L:List Int):(Stk.push m s L).2.1.from_=s.from_∧(Stk.push m s L).2.1.most=s.most:=by
 unfold Stk.push;split
 · exact ⟨rfl,rfl⟩
 · simp only [Stk.pushN_depth];exact ⟨trivial,trivial⟩
theorem stk_pop_same (m:Mem) (s:Stk):(Stk.pop m s).1.from_=s.from_∧(Stk.pop m s).1.most=s.most:=by unfold Stk.pop;simp only;split <;> exact ⟨rfl,rfl⟩
theorem stk_drop_same (s:Stk) (n:Int):(Stk.drop s n).1.from_=s.from_∧(Stk.drop s n).1.most=s.most:=by unfold Stk.drop;split;exact ⟨rfl,rfl⟩;split <;> exact ⟨rfl,rfl⟩
section
variable (K:Bk) (w:World) (v:VM)
theorem fv_push (h:RFv w K v) (a:Option Addr) (c:Nat) (L:List Int) (hA:ArgI w a L) (hl:L.length≤1048576) (hne:∀ g,blk a=some g→g≠K.db∧g≠K.bb) :
 Calls Tryz.prog 80 #[.pointer (some ⟨K.db,0,none⟩),.slice a L.length c] w (PVd K w (v.push L)):=by
 refine (stk_push w K.db K.b K.bb v.d v.x.mem a c L h.vm.dk h.vm.sp.mem ⟨h.vm.ne.2.1.2.1,h.vm.ne.2.1.2.2.1⟩ hA hl hne).mono ?_;rintro e w' ⟨he,hm,hd,k⟩;have hs:=push_size v.x.mem v.d L;have hsm:=stk_push_same v.x.mem v.d L;have h1:=h.vm.withPush k hd hm hs;refine ⟨he,⟨h1,k.heap h.hp (fun e=>by have:=h.hbn;rcases e with e | e;exact this.2.2.2.2.1 e;exact this.2.2.2.1 e),?_,(fun g hg=>Nat.lt_of_lt_of_le (h.xl g hg) k.size)⟩,k⟩
 exact { h.ok with d8:=by show (Stk.push _ _ _).2.1.from_ % 8=0;rw [hsm.1];exact h.ok.d8,dm:=by show (Stk.push _ _ _).2.1.from_+(Stk.push _ _ _).2.1.most*8≤((Stk.push _ _ _).1.size:Int);rw [hsm.1,hsm.2,hs];exact h.ok.dm,rm:=by show _≤((Stk.push _ _ _).1.size:Int);rw [hs];exact h.ok.rm,top:=by show _≤((Stk.push _ _ _).1.size:Int);rw [hs];exact h.ok.top }
theorem fv_rpush (h:RFv w K v) (a:Option Addr) (c:Nat) (L:List Int) (hA:ArgI w a L) (hl:L.length≤1048576) (hne:∀ g,blk a=some g→g≠K.rb∧g≠K.bb) :
 Calls Tryz.prog 80 #[.pointer (some ⟨K.rb,0,none⟩),.slice a L.length c] w (PVr K w (v.rpush L)):=by
 refine (stk_push w K.rb K.b K.bb v.r v.x.mem a c L h.vm.rk h.vm.sp.mem ⟨h.vm.ne.2.2.1.2.1,h.vm.ne.2.2.1.2.2⟩ hA hl hne).mono ?_;rintro e w' ⟨he,hm,hr,k⟩;have hs:=push_size v.x.mem v.r L;have hsm:=stk_push_same v.x.mem v.r L;obtain ⟨⟨n1,n2,n3,n4,n5⟩,⟨m1,m2,m3,m4⟩,⟨r1,r2,r3⟩,n8⟩:=h.vm.ne;have no:∀ {g:Nat},g≠K.rb→g≠K.bb→¬ (g=K.rb∨g=K.bb):=fun h1 h2 e=>by rcases e with e | e;exact h1 e;exact h2 e
 have hsp:=h.vm.sp;obtain ⟨o1,o2,o3,o4⟩:=hsp.ok
 refine ⟨he,⟨⟨h.vm.mc.keeps k (no n5 n3),h.vm.csp,h.vm.cdk,h.vm.crk,⟨k.heap hsp.head (no (fun e=>r1 e.symm) hsp.ne2),hm,hsp.ne1,hsp.ne2,⟨o1,o2,o3,by show v.x.to≤((Stk.push _ _ _).1.size:Int);rw [hs];exact o4⟩⟩,h.vm.dk.keeps k (no m4 m3),hr,h.vm.does.keeps k (no n8.2.2.2.2 n8.2.2.1) (fun g hg=>no (h.vm.nx g hg).2.2.2.2 (h.vm.nx g hg).2.2.1),h.vm.nx,h.vm.ne⟩,
  k.heap h.hp (no h.hbn.2.2.2.2.2 h.hbn.2.2.2.1),?_,(fun g hg=>Nat.lt_of_lt_of_le (h.xl g hg) k.size)⟩,k⟩
 exact { h.ok with r8:=by show (Stk.push _ _ _).2.1.from_ % 8=0;rw [hsm.1];exact h.ok.r8,rm:=by show (Stk.push _ _ _).2.1.from_+(Stk.push _ _ _).2.1.most*8≤((Stk.push _ _ _).1.size:Int);rw [hsm.1,hsm.2,hs];exact h.ok.rm,dm:=by show _≤((Stk.push _ _ _).1.size:Int);rw [hs];exact h.ok.dm,top:=by show _≤((Stk.push _ _ _).1.size:Int);rw [hs];exact h.ok.top }
theorem fv_pop (h:RFv w K v):Calls Tryz.prog 43 #[.pointer (some ⟨K.db,0,none⟩)] w (PV2 K w v.pop) :=
 (stk_pop w K.db K.b K.bb v.d v.x.mem h.vm.dk h.vm.sp.mem).mono fun _ _ ⟨he,hd,k⟩=>⟨he,h.withD k hd (stk_pop_same _ _),foot_db K k⟩
theorem fv_rpop (h:RFv w K v):Calls Tryz.prog 43 #[.pointer (some ⟨K.rb,0,none⟩)] w (PV2 K w v.rpop) :=
 (stk_pop w K.rb K.b K.bb v.r v.x.mem h.vm.rk h.vm.sp.mem).mono fun _ _ ⟨he,hd,k⟩=>⟨he,h.withR k hd (stk_pop_same _ _),foot_rb K k⟩
theorem fv_ddrop (n:Int) (h:RFv w K v):Calls Tryz.prog 53 #[.pointer (some ⟨K.db,0,none⟩),.int .i64 n] w (PV K w (v.ddrop n)) :=
 (stk_drop w K.db K.b v.d n h.vm.dk).mono fun _ _ ⟨he,hd,k⟩=>⟨he,h.withD k hd (stk_drop_same _ _),foot_db K k⟩
theorem fv_rdrop (n:Int) (h:RFv w K v):Calls Tryz.prog 53 #[.pointer (some ⟨K.rb,0,none⟩),.int .i64 n] w (PV K w (v.rdrop n)) :=
 (stk_drop w K.rb K.b v.r n h.vm.rk).mono fun _ _ ⟨he,hd,k⟩=>⟨he,h.withR k hd (stk_drop_same _ _),foot_rb K k⟩
theorem fv_depth (h:RFv w K v):Calls Tryz.prog 18 #[.pointer (some ⟨K.db,0,none⟩)] w fun e w'=>e=.returned (.int .i64 v.d.depth)∧w=w':=stk_depth w K.db K.b v.d h.vm.dk
theorem fv_rdepth (h:RFv w K v):Calls Tryz.prog 18 #[.pointer (some ⟨K.rb,0,none⟩)] w fun e w'=>e=.returned (.int .i64 v.r.depth)∧w=w':=stk_depth w K.rb K.b v.r h.vm.rk
theorem fv_rat (i:Int) (h:RFv w K v):Calls Tryz.prog 78 #[.pointer (some ⟨K.rb,0,none⟩),.int .i64 i] w fun e w'=>e=.returned (.tuple #[.int .i64 (Stk.at_ v.x.mem v.r i).1,.int .i64 (Stk.at_ v.x.mem v.r i).2])∧RFv w' K v∧Keeps K.foot w w' :=
 (stk_at w K.rb K.b K.bb v.r v.x.mem i h.vm.rk h.vm.sp.mem).mono fun _ _ ⟨he,k⟩=>⟨he,h.keeps0 k,foot0 K k⟩
theorem fv_cell (a:Int) (h:RFv w K v):Calls Tryz.prog 81 #[.pointer (some ⟨K.b,0,none⟩),.int .i64 a] w fun e w'=>e=.returned (.tuple #[.int .i64 (v.cell a).1,.int .i64 (v.cell a).2])∧w=w':=mem_cell w K.b K.bb v.x.mem a h.vm.sp.mem
theorem fv_setCell (a n:Int) (h:RFv w K v):Calls Tryz.prog 85 #[.pointer (some ⟨K.b,0,none⟩),.int .i64 a,.int .i64 n] w (PV K w (v.setCell a n)) :=
 (mem_setCell w K.b K.bb v.x.mem a n h.vm.sp.mem).mono fun _ _ ⟨he,hm,k⟩=>⟨he,h.withMem k hm (Mem.setCell_size _ _ _),foot_bb K k⟩
theorem argI_1 (n:Int) (t:TypeId):ArgI (w.alloc (.cells #[.int .i64 n] t)) (some ⟨w.heap.size,0,none⟩) [n]:=fun i hi=>⟨w.heap.size,0,rfl,by
 obtain rfl:i=0:=by simpa using hi
 exact cell_of (halloc_at w _) rfl⟩
theorem argI_2 (n m:Int) (t:TypeId):ArgI (w.alloc (.cells #[.int .i64 n,.int .i64 m] t)) (some ⟨w.heap.size,0,none⟩) [n,m]:=fun i hi=>⟨w.heap.size,0,rfl,by
 match i,hi with
 | 0,_=>exact cell_of (halloc_at w _) rfl
 | 1,_=>exact cell_of (halloc_at w _) rfl⟩
theorem argI_4 (a b c d:Int) (t:TypeId):ArgI (w.alloc (.cells #[.int .i64 a,.int .i64 b,.int .i64 c,.int .i64 d] t)) (some ⟨w.heap.size,0,none⟩) [a,b,c,d]:=fun i hi=>⟨w.heap.size,0,rfl,by
 match i,hi with
 | 0,_=>exact cell_of (halloc_at w _) rfl
 | 1,_=>exact cell_of (halloc_at w _) rfl
 | 2,_=>exact cell_of (halloc_at w _) rfl
 | 3,_=>exact cell_of (halloc_at w _) rfl⟩
theorem PVd.pv {q:VM × Int} {e:Ending} {w':World} (h:PVd K w q e w'):PV K w q e w':=⟨h.1,h.2.1,foot_dbb K h.2.2⟩
theorem PVr.pv {q:VM × Int} {e:Ending} {w':World} (h:PVr K w q e w'):PV K w q e w':=⟨h.1,h.2.1,foot_rbb K h.2.2⟩
theorem new_ne (h:RFv w K v):∀ g,blk (some ⟨w.heap.size,0,none⟩)=some g→(g≠K.db∧g≠K.bb)∧(g≠K.rb∧g≠K.bb):=fun g e=>by
 cases e
 have:=h.lts
 show (w.heap.size≠K.db∧w.heap.size≠K.bb)∧(w.heap.size≠K.rb∧w.heap.size≠K.bb)
 omega
theorem mb_nd (h:RFv w K v):¬ (K.mb=K.db∨K.mb=K.bb):=fun e=>e.elim h.vm.ne.1.2.2.2.1 h.vm.ne.1.2.2.1
theorem mb_nr (h:RFv w K v):¬ (K.mb=K.rb∨K.mb=K.bb):=fun e=>e.elim h.vm.ne.1.2.2.2.2 h.vm.ne.1.2.2.1
theorem fv_push1 (n:Int) (t:TypeId) (h:RFv w K v):Calls Tryz.prog 80 #[.pointer (some ⟨K.db,0,none⟩),.slice (some ⟨w.heap.size,0,none⟩) 1 1] (w.alloc (.cells #[.int .i64 n] t)) (PVd K w (v.push [n])) :=
 (fv_push K _ v (h.keeps0 (Keeps.alloc _ _ _)) _ 1 [n] (argI_1 w n t) (show 1≤1048576 by decide) (fun g e=>(new_ne K w v h g e).1)).mono fun _ _ h=>⟨h.1,h.2.1,(Keeps.alloc _ _ _).trans h.2.2⟩
theorem fv_push2 (n m:Int) (t:TypeId) (h:RFv w K v):Calls Tryz.prog 80 #[.pointer (some ⟨K.db,0,none⟩),.slice (some ⟨w.heap.size,0,none⟩) 2 2] (w.alloc (.cells #[.int .i64 n,.int .i64 m] t)) (PVd K w (v.push [n,m])) :=
 (fv_push K _ v (h.keeps0 (Keeps.alloc _ _ _)) _ 2 [n,m] (argI_2 w n m t) (show 2≤1048576 by decide) (fun g e=>(new_ne K w v h g e).1)).mono fun _ _ h=>⟨h.1,h.2.1,(Keeps.alloc _ _ _).trans h.2.2⟩
theorem fv_rpush1 (n:Int) (t:TypeId) (h:RFv w K v):Calls Tryz.prog 80 #[.pointer (some ⟨K.rb,0,none⟩),.slice (some ⟨w.heap.size,0,none⟩) 1 1] (w.alloc (.cells #[.int .i64 n] t)) (PVr K w (v.rpush [n])) :=
 (fv_rpush K _ v (h.keeps0 (Keeps.alloc _ _ _)) _ 1 [n] (argI_1 w n t) (show 1≤1048576 by decide) (fun g e=>(new_ne K w v h g e).2)).mono fun _ _ h=>⟨h.1,h.2.1,(Keeps.alloc _ _ _).trans h.2.2⟩
theorem fv_rpush4 (n m a b:Int) (t:TypeId) (h:RFv w K v):Calls Tryz.prog 80 #[.pointer (some ⟨K.rb,0,none⟩),.slice (some ⟨w.heap.size,0,none⟩) 4 4] (w.alloc (.cells #[.int .i64 n,.int .i64 m,.int .i64 a,.int .i64 b] t)) (PVr K w (v.rpush [n,m,a,b])) :=
 (fv_rpush K _ v (h.keeps0 (Keeps.alloc _ _ _)) _ 4 [n,m,a,b] (argI_4 w n m a b t) (show 4≤1048576 by decide) (fun g e=>(new_ne K w v h g e).2)).mono fun _ _ h=>⟨h.1,h.2.1,(Keeps.alloc _ _ _).trans h.2.2⟩
theorem fv_push2d (n m:Int) (t:TypeId) (h:RFv w K v):Calls Tryz.prog 80 #[.pointer (some ⟨K.db,0,none⟩),.slice (some ⟨w.heap.size,0,none⟩) 2 2] ((w.alloc (.cells #[.int .i64 n,.int .i64 m] t)).drew) (PVd K w (v.push [n,m])) :=
 (fv_push K _ v (h.keeps0 ((ka_ w _).trans (Keeps.drew _ _))) _ 2 [n,m] (argI_2 w n m t) (show 2≤1048576 by decide) (fun g e=>(new_ne K w v h g e).1)).mono fun _ _ h=>⟨h.1,h.2.1,((Keeps.alloc _ w _).trans (Keeps.drew _ _)).trans h.2.2⟩
theorem fv_rpush1d (n:Int) (t:TypeId) (h:RFv w K v):Calls Tryz.prog 80 #[.pointer (some ⟨K.rb,0,none⟩),.slice (some ⟨w.heap.size,0,none⟩) 1 1] ((w.alloc (.cells #[.int .i64 n] t)).drew) (PVr K w (v.rpush [n])) :=
 (fv_rpush K _ v (h.keeps0 ((ka_ w _).trans (Keeps.drew _ _))) _ 1 [n] (argI_1 w n t) (show 1≤1048576 by decide) (fun g e=>(new_ne K w v h g e).2)).mono fun _ _ h=>⟨h.1,h.2.1,((Keeps.alloc _ w _).trans (Keeps.drew _ _)).trans h.2.2⟩
theorem fv_rpush2d (n m:Int) (t:TypeId) (h:RFv w K v):Calls Tryz.prog 80 #[.pointer (some ⟨K.rb,0,none⟩),.slice (some ⟨w.heap.size,0,none⟩) 2 2] ((w.alloc (.cells #[.int .i64 n,.int .i64 m] t)).drew) (PVr K w (v.rpush [n,m])) :=
 (fv_rpush K _ v (h.keeps0 ((ka_ w _).trans (Keeps.drew _ _))) _ 2 [n,m] (argI_2 w n m t) (show 2≤1048576 by decide) (fun g e=>(new_ne K w v h g e).2)).mono fun _ _ h=>⟨h.1,h.2.1,((Keeps.alloc _ w _).trans (Keeps.drew _ _)).trans h.2.2⟩
theorem fv_push1p (n:Int) (t:TypeId) (h:RFv w K v):Calls Tryz.prog 80 #[.pointer (some ⟨K.db,0,none⟩),.slice (some ⟨w.heap.size,0,none⟩) 1 1] (w.alloc (.cells #[.int .i64 n] t)) (PV K w (v.push [n])):=(fv_push1 K w v n t h).mono fun _ _ h=>h.pv
theorem fv_push2p (n m:Int) (t:TypeId) (h:RFv w K v):Calls Tryz.prog 80 #[.pointer (some ⟨K.db,0,none⟩),.slice (some ⟨w.heap.size,0,none⟩) 2 2] (w.alloc (.cells #[.int .i64 n,.int .i64 m] t)) (PV K w (v.push [n,m])):=(fv_push2 K w v n m t h).mono fun _ _ h=>h.pv
theorem fv_rpush1p (n:Int) (t:TypeId) (h:RFv w K v):Calls Tryz.prog 80 #[.pointer (some ⟨K.rb,0,none⟩),.slice (some ⟨w.heap.size,0,none⟩) 1 1] (w.alloc (.cells #[.int .i64 n] t)) (PV K w (v.rpush [n])):=(fv_rpush1 K w v n t h).mono fun _ _ h=>h.pv
end
section
variable (K:Bk) (w:World) (v:VM)
theorem fv_definition (xt:Int) (h:RFv w K v) (x0:0≤xt) (x1:xt≤4194304):Calls Tryz.prog 408 #[.pointer (some ⟨K.mb,0,none⟩),.int .i64 xt] w (PV K w (v.definition xt)):=by
 have HP:=h_ fun V (hV:RFv V K v)=>fv_rpush1d K V v v.ip 2 hV
 have hs:v.definition xt=if (v.rpush [v.ip]).2≠0 then v.rpush [v.ip] else ({ (v.rpush [v.ip]).1 with ip:=xt+8 },0):=rfl
 generalize v.definition xt=Q at hs ⊢;generalize v.rpush [v.ip]=q at hs HP;obtain ⟨v1,e1⟩:=q;simp only at hs
 have HS:=h_ hs;clear hs;have R0:=h_ h;have K0:=h_ (Keeps.refl K.foot w);have c2:=R0.out.m2;have c5:=R0.out.m5;have HN:=h_ (mb_nr K w v h);clear h
 go_enter Tryz.func408,Tryz.ntmps408
 go_wp2_with fail
 go_region_held3 (fun w'=>w'.cell? ⟨K.mb,2,none⟩=some (.pointer (some ⟨K.rb,0,none⟩))∧w'.cell? ⟨K.mb,5,none⟩=some (.int .i64 v.ip))
  (first | go_keep | exact ⟨t2,t5⟩)
  (first | (go_at_call 80;refine (HP.out w R0.out).mono ?_;rintro e w1 ⟨rfl,r1,k1⟩;dsimp only;have t2:=k1.cell c2 HN.out;have t5:=k1.cell c5 HN.out))
 have R1:=h_ r1;have K1:=h_ (K0.out.trans (foot_rbb K k1));clear r1 k1 t2 t5 c2 c5;by_cases h1:e1=0
 · subst h1
   have hs:=HS.out;rw [if_neg (by simp)] at hs
   have c5:=R1.out.m5;have f5:=R1.out.free 5;have R2:=h_ (R1.out.setIp (xt+8));have K2:=h_ (K1.out.trans (foot_mb K (Keeps.setCell w1 ⟨K.mb,5,none⟩ (.int .i64 (xt+8)) (fun _=>rfl))))
   subst hs;clear HS;go_wp2_with fail;go_ret
   exact ⟨rfl,R2.out,K2.out⟩
 · have d1:(e1 != 0)=true:=by simp [h1]
   have hs:=HS.out;rw [if_pos h1] at hs;subst hs;clear HS h1;go_wp2_with fail;go_ret
   exact ⟨rfl,R1.out,K1.out⟩
end
section
variable (K:Bk) (w:World) (v:VM)
def PVu (K:Bk) (w:World) (v:VM) (e:Ending) (w':World):Prop:=e=.returned (.tuple #[])∧RFv w' K v∧Keeps K.foot w w'
theorem fv_put (t:List UInt8) (h:RFv w K v) (ht:t.length≤4611686018427387904):Calls Tryz.prog 86 #[.pointer (some ⟨K.mb,0,none⟩),.string ⟨t.toArray⟩] w (PVu K w (v.put t)):=by
 have ho:=h.ok.out;obtain ⟨k,hk⟩:∃ k:Nat,k=65536-v.out.length:=⟨_,rfl⟩;have hl:(v.out++t.take k).length≤65536:=by simp;omega
 have hq:v.put t={ v with out:=v.out++t.take k }:=by unfold VM.put;rw [hk]
 rw [hq];have HO:=h_ (h.setOut (v.out++t.take k) hl);have HK:=h_ (foot_mb K (Keeps.setCell w ⟨K.mb,11,none⟩ (.string ⟨(v.out++t.take k).toArray⟩) (fun _=>rfl)))
 have hw:IntKind.i64.wrap ((65536:Int)-(v.out.length:Int))=(k:Int):=by rw [IntWalk.i64_in _ (by omega)];omega
 have R0:=h_ h;have K0:=h_ (Keeps.refl K.foot w);have c11:=R0.out.m11;have f11:=R0.out.free 11;have ha:=str_app v.out (t.take k);have HKK:=h_ hk;clear h hl hq hk;by_cases hc:k<t.length
 · have hmn:((k:Int)<(t.length:Int))=True:=by simp;omega
   have hx:=str_extract t 0 k (Nat.zero_le _);rw [List.drop_zero,Nat.sub_zero] at hx;have hn9:¬ 9223372036854775807<v.out.length+(t.take k).length:=by rw [List.length_take];have:=HKK.out;omega
   generalize v.out++t.take k=o2 at HO HK ha ⊢;generalize t.take k=t2 at hx ha hn9;have hkl:k≤t.length:=by omega
   clear hc
   go_enter Tryz.func86,Tryz.ntmps86
   go_wp2_with fail
   go_region
   have R1:=h_ (HO.out.keeps0 (Keeps.drew _ _));have K1:=h_ (HK.out.trans (Keeps.drew _ _));go_wp2_with fail;go_end0
   exact ⟨rfl,R1.out,K1.out⟩
 · have hmn:((k:Int)<(t.length:Int))=False:=by simp;omega
   have hx:=str_extract t 0 t.length (Nat.zero_le _);rw [List.drop_zero,Nat.sub_zero,List.take_length] at hx;have hte:t.take k=t:=List.take_of_length_le (by omega)
   rw [hte] at HO HK ha ⊢;have hn9:¬ 9223372036854775807<v.out.length+t.length:=by have:=HKK.out;omega
   generalize v.out++t=o2 at HO HK ha ⊢;clear hc hte
   go_enter Tryz.func86,Tryz.ntmps86
   go_wp2_with fail
   go_region
   have R1:=h_ (HO.out.keeps0 (Keeps.drew _ _));have K1:=h_ (HK.out.trans (Keeps.drew _ _));go_wp2_with fail;go_end0
   exact ⟨rfl,R1.out,K1.out⟩
theorem fv_base (h:RFv w K v):Calls Tryz.prog 140 #[.pointer (some ⟨K.mb,0,none⟩)] w fun e w'=>e=.returned (.int .i64 v.baseN)∧Keeps (fun _=>False) w w':=vm_base w K.mb K.s K.b K.bb _ v.x h.vm.mc rfl h.vm.sp
theorem fv_shown (t:List UInt8) (h:RFv w K v) (ht:t.length≤1000000):Calls Tryz.prog 347 #[.pointer (some ⟨K.mb,0,none⟩),.string ⟨t.toArray⟩] w (PV K w (v.shown t)):=by
 have HP:=h_ (fv_put K w v (t++[32]) h (by simp;omega))
 have ha:=str_app t [32];have R0:=h_ h;have K0:=h_ (Keeps.refl K.foot w);clear h;by_cases hn:t=[]
 · have hq:v.shown t=(v,-40):=by unfold VM.shown;rw [if_pos hn]
   rw [hq];have d1:(t == [])=true:=by simp [hn]
   clear hn hq
   go_enter Tryz.func347,Tryz.ntmps347
   go_wp2_with fail;go_ret
   exact ⟨rfl,R0.out,K0.out⟩
 · have hq:v.shown t=(v.put (t++[32]),0):=by unfold VM.shown;rw [if_neg hn]
   rw [hq];have d1:(t == [])=false:=by simp [hn]
   clear hn hq
   go_enter Tryz.func347,Tryz.ntmps347
   go_wp2_with fail;refine (HP.out).mono ?_;rintro e w1 ⟨rfl,r1,k1⟩;have R1:=h_ r1;have K1:=h_ (K0.out.trans k1);clear r1 k1
   skip
   go_wp2_with fail;go_ret
   exact ⟨rfl,R1.out,K1.out⟩
theorem fv_inline (h:RFv w K v):Calls Tryz.prog 297 #[.pointer (some ⟨K.mb,0,none⟩)] w (PV2 K w v.inline):=by
 have HC:=h_ fun V (hV:RFv V K v)=>fv_cell K V v v.ip hV
 have hs:v.inline=({ v with ip:=wrap64 (v.ip+8) },v.cell v.ip):=rfl;rw [hs];clear hs;generalize v.cell v.ip=q at HC ⊢;obtain ⟨n,e⟩:=q;simp only at HC
 have hC:=h_ fun (q:Stay w)=>(HC.out q.1 (h.keeps0 q.2)).mono (fun e w' (h:_∧_)=>(⟨h.1,h.2 ▸ Keeps.refl (fun _=>False) _⟩:_∧Keeps (fun _=>False) q.1 w'))
 have y0:=fun (q:Stay w)=>q.2.cell h.m0 id
 have y5:=fun (q:Stay w)=>q.2.cell h.m5 id
 have ys:=fun (q:Stay w)=>q.2.cell h.ms id
 have R0:=h_ h;have K0:=h_ (Keeps.refl K.foot w);clear h HC
 go_enter Tryz.func297,Tryz.ntmps297
 go_wp2_with fail;refine Go.Proofs.K.wp_region_calm ?calm1a ?calm1b ?_
 case calm1a=>kernel_rfl
 case calm1b=>kernel_rfl
 repeat ((with_reducible refine wpQuiet_step ?_);intro Kq hKq;go_simp;first | ((with_reducible refine hKq _ ?_);clear hKq Kq) | (refine hKq _ ?_;clear hKq Kq) | (apply Exists.intro;refine ⟨fun _=>?_,hKq _ ?_⟩;(first | exact Go.Proofs.K.calm_of (hC.out _));clear hKq Kq))
 with_reducible refine wpQuiet_nil ?_
 intro w1 hw';obtain ⟨⟨wq,kq⟩,hw''⟩:=hw';subst hw'';have R1:=h_ (R0.out.keeps0 kq);have K1:=h_ (foot0 K kq);have c5:=R1.out.m5;have f5:=R1.out.free 5;clear y0 y5 ys hC kq;have R2:=h_ (R1.out.setIp (wrap64 (v.ip+8)));have K2:=h_ (K1.out.trans (foot_mb K (Keeps.setCell _ ⟨K.mb,5,none⟩ (.int .i64 (wrap64 (v.ip+8))) (fun _=>rfl))))
 go_wp2_with fail;go_ret2
 exact ⟨rfl,R2.out,K2.out⟩
theorem fv_method (xt o:Int) (h:RFv w K v):Calls Tryz.prog 363 #[.pointer (some ⟨K.mb,0,none⟩),.int .i64 xt,.int .i64 o] w (PV K w (v.method xt o)):=by
 have HC:=h_ (fv_cell K w v xt h);have hb:=h.vm.sp.mem.le;have HP:=h_ fun V (hV:RFv V K v)=>fv_rpush2d K V v v.self v.ip 2 hV
 have HX:=h_ (show (v.cell xt).2=0→0≤xt∧xt≤4194304 from fun hc=>by
  unfold VM.cell Mem.cell at hc;split at hc
  · rename_i h1;rw [Mem.at_zero] at h1;omega
  · rename_i h1;exact absurd hc h1)
 have hs:v.method xt o=if (v.cell xt).2≠0∨(v.cell xt).1≠1004 then (v,-14) else if (v.rpush [v.self,v.ip]).2≠0 then v.rpush [v.self,v.ip] else ({ (v.rpush [v.self,v.ip]).1 with self:=o,ip:=xt+8 },0):=rfl
 generalize v.method xt o=Q at hs ⊢;generalize v.cell xt=c at hs HC HX;generalize v.rpush [v.self,v.ip]=q at hs HP;obtain ⟨n,e⟩:=c;obtain ⟨v1,e1⟩:=q;simp only at hs HC HX
 have HS:=h_ hs;clear hs hb;have HN:=h_ (mb_nr K w v h);have R0:=h_ h;have K0:=h_ (Keeps.refl K.foot w);have c0:=R0.out.m0;have c2:=R0.out.m2;have c5:=R0.out.m5;have c6:=R0.out.m6;have cs:=R0.out.ms;clear h;by_cases h1:e=0
 · subst h1
   by_cases h2:n=1004
   · subst h2
     obtain ⟨x0,x1⟩:=HX.out rfl;clear HX
     go_enter Tryz.func363,Tryz.ntmps363
     go_wp2_with fail;refine (HC.out).mono ?_;rintro e w' ⟨rfl,rfl⟩;go_wp2_with fail
     go_region_held3 (fun w'=>w'.cell? ⟨K.mb,2,none⟩=some (.pointer (some ⟨K.rb,0,none⟩))∧w'.cell? ⟨K.mb,5,none⟩=some (.int .i64 v.ip)∧w'.cell? ⟨K.mb,6,none⟩=some (.int .i64 v.self))
      (first | go_keep | exact ⟨t2,t5,t6⟩)
      (first | (go_at_call 80;refine (HP.out w R0.out).mono ?_;rintro e w1 ⟨rfl,r1,k1⟩;dsimp only;have t2:=k1.cell c2 HN.out;have t5:=k1.cell c5 HN.out;have t6:=k1.cell c6 HN.out))
     have R1:=h_ r1;have K1:=h_ (K0.out.trans (foot_rbb K k1));clear r1 k1 t2 t5 t6
     try clear c0;try clear c2;try clear c5;try clear c6;try clear cs
     by_cases h1:e1=0
     · subst h1
       have hs:=HS.out;rw [if_neg (by simp),if_neg (by simp)] at hs
       have c5:=R1.out.m5;have c6:=R1.out.m6;have f5:=R1.out.free 5;have f6:=R1.out.free 6;have R2:=h_ ((R1.out.setSelf o).setIp (xt+8));have K2:=h_ ((K1.out.trans (foot_mb K (Keeps.setCell w1 ⟨K.mb,6,none⟩ (.int .i64 o) (fun _=>rfl)))).trans (foot_mb K (Keeps.setCell _ ⟨K.mb,5,none⟩ (.int .i64 (xt+8)) (fun _=>rfl))))
       subst hs;clear HS;go_wp2_with fail;go_ret
       exact ⟨rfl,R2.out,K2.out⟩
     · have d1:(e1 != 0)=true:=by simp [h1]
       have hs:=HS.out;rw [if_neg (by simp),if_pos h1] at hs
       subst hs;clear HS h1;go_wp2_with fail;go_ret
       exact ⟨rfl,R1.out,K1.out⟩
   · have d2:(n != 1004)=true:=by simp [h2]
     have hs:=HS.out;rw [if_pos (.inr h2)] at hs;subst hs;clear HS HX HP h2
     go_enter Tryz.func363,Tryz.ntmps363
     go_wp2_with fail;refine (HC.out).mono ?_;rintro e w' ⟨rfl,rfl⟩;go_wp2_with fail;go_ret
     exact ⟨rfl,R0.out,K0.out⟩
 · have d1:(e != 0)=true:=by simp [h1]
   have hs:=HS.out;rw [if_pos (.inl h1)] at hs;subst hs;clear HS HX HP h1
   go_enter Tryz.func363,Tryz.ntmps363
   go_wp2_with fail;refine (HC.out).mono ?_;rintro e w' ⟨rfl,rfl⟩;go_wp2_with fail;go_ret
   exact ⟨rfl,R0.out,K0.out⟩
end
theorem rep_list (n:Nat):Array.replicate n (Value.int .i64 0)=((List.replicate n (0:Int)).map (Value.int .i64)).toArray:=by simp
theorem made_list (n:Nat):madeCells (Value.int .i64 0).cells n=Array.replicate n (.int .i64 0):=by
 apply Array.ext'
 unfold madeCells;simp [Value.cells]
 apply List.ext_getElem
 · simp
 · intro i h1 h2
   simp [Nat.mod_one]
theorem intV_get {L:List Int} {i:Nat} (h:i<L.length):((L.map (Value.int .i64)).toArray)[i]?=some (.int .i64 (L.getD i 0)):=by simp [h]
def Nums (w:World) (la:Nat) (L:List Int):Prop:=w.heap[la]?=some (.cells (L.map (Value.int .i64)).toArray 2 (0,0))
theorem Nums.keeps {w w':World} {la:Nat} {L:List Int} (h:Nums w la L) {S:Nat→Prop} (k:Keeps S w w') (n:¬ S la):Nums w' la L:=k.heap h n
theorem Nums.nf {w:World} {K:Bk} {v:VM} {la:Nat} {L:List Int} (h:Nums w la L) (r:RFv w K v):¬ K.foot la:=fun e=>by
 rcases e with e | e | e | e | e
 · exact ne_type' h r.vm.mc rfl e
 · exact ne_type' h r.vm.sp.head rfl e
 · exact ne_type' h r.vm.sp.mem.rest rfl e
 · exact ne_type' h r.vm.dk.head rfl e
 · exact ne_type' h r.vm.rk.head rfl e
theorem Nums.cell {w:World} {la:Nat} {L:List Int} (h:Nums w la L) {i:Nat} (hi:i<L.length):w.cell? ⟨la,i,none⟩=some (.int .i64 (L.getD i 0)):=cell_of h (intV_get hi)
theorem Nums.arg {w:World} {la:Nat} {L:List Int} (h:Nums w la L):ArgI w (some ⟨la,0,none⟩) L:=fun i hi=>⟨la,0,rfl,by
 rw [Nat.zero_add,h.cell hi]
 simp [List.getD,hi]⟩
section
variable (K:Bk) (w:World) (v:VM)
def PopsPost (K:Bk) (w:World) (v:VM) (n:Nat) (e:Ending) (w':World):Prop :=
 ∃ la,e=.returned (.tuple #[.slice (some ⟨la,0,none⟩) n n,.int .i64 0])∧Nums w' la (VM.tops v.x.mem v.d n)∧RFv w' K { v with d:={ v.d with depth:=v.d.depth-n } }∧Keeps K.foot w w'
theorem pop_is (h:RFv w K v) (i:Nat) (hi:(i:Int)<v.d.depth):VM.pop { v with d:={ v.d with depth:=v.d.depth-i } }=({ v with d:={ v.d with depth:=v.d.depth-i-1 } },(Stk.at_ v.x.mem v.d i).1,0):=by
 obtain ⟨o1,o2,o3,o4,o5,o6,o7⟩:=h.vm.dk.ok;have:=Stk.pop_at v.x.mem v.d i o1 h.ok.d8 h.ok.dm o4 (by omega) hi
 unfold VM.pop;simp only
 rw [this]
theorem fv_pops_few (n:Nat) (hn:n≤8) (h:RFv w K v) (hd:v.d.depth<n):Calls Tryz.prog 407 #[.pointer (some ⟨K.mb,0,none⟩),.int .i64 n] w fun e w'=>e=.returned (.tuple #[.slice none 0 0,.int .i64 (-4)])∧w=w':=by
 have HD:=h_ (fv_depth K w v h);have d1:decide (v.d.depth<(n:Int))=true:=decide_eq_true hd;have R0:=h_ h;have K0:=h_ (Keeps.refl K.foot w);have c1:=R0.out.m1;clear h hd
 go_enter Tryz.func407,Tryz.ntmps407
 go_wp2_with fail;refine (HD.out).mono ?_;rintro e w' ⟨rfl,rfl⟩;go_wp2_with fail;go_ret2
 exact ⟨rfl,rfl⟩
theorem fv_pops (n:Nat) (hn:n≤8) (h:RFv w K v) (hd:n≤v.d.depth):Calls Tryz.prog 407 #[.pointer (some ⟨K.mb,0,none⟩),.int .i64 n] w (PopsPost K w v n):=by
 have HD:=h_ (fv_depth K w v h);have d1:decide (v.d.depth<(n:Int))=false:=decide_eq_false (by omega)
 obtain ⟨i0,hi,hz0,hz1,hz2⟩:=info_parts infoInt;have hmk0:=fun w=>run_make (P:=Tryz.prog) w 22 2 i0 (.int .i64 0) Tryz.underlying22 hi hz0 .i64 .i64 n n (by omega) (by omega) (by rw [hz2];omega) (by omega)
 rw [hz1] at hmk0;have hmk:∀ w,(Instr.makeSlice 22 (.int .i64 n) (.int .i64 n)).run Tryz.prog w=.ok (.slice (some ⟨w.heap.size,0,none⟩) n n) (w.alloc (.cells (Array.replicate n (.int .i64 0)) 2)):=fun w=>(hmk0 w).trans (by rw [show ((n:Int)).toNat*1=n by omega,made_list];rfl)
 clear hmk0;obtain ⟨L,hL⟩:∃ L,L=VM.tops v.x.mem v.d n:=⟨_,rfl⟩;have hLl:L.length=n:=by rw [hL,VM.tops_len]
 have HL:=h_ hL;have HLL:=h_ hLl;have HDD:=h_ hd;have R0:=h_ h;have K0:=h_ (Keeps.refl K.foot w);have c1:=R0.out.m1;clear h hd hL hLl
 go_enter Tryz.func407,Tryz.ntmps407
 go_wp2_with fail;refine (HD.out).mono ?_;rintro e w' ⟨rfl,rfl⟩;go_wp2_with fail;have hA:Nums (w.alloc (.cells (Array.replicate n (.int .i64 0)) 2)) w.heap.size (VM.part L 0):=by unfold Nums;rw [VM.part_zero,HLL.out,← rep_list];exact halloc_at w _
 have ka:=ka_ w (.cells (Array.replicate n (.int .i64 0)) 2);obtain ⟨la,hla⟩:∃ la,la=w.heap.size:=⟨_,rfl⟩;rw [← hla] at hA ⊢;generalize w.alloc (.cells (Array.replicate n (.int .i64 0)) 2)=V at hA ka ⊢;have RV:=h_ (R0.out.keeps0 ka);have HA:=h_ hA;have KA:=h_ ka;have HLA:=h_ (Nat.le_of_eq hla.symm);clear hA ka hla hmk
 try clear c1
 go_loopw [19] (fun iv wr=>∃ i:Nat,iv=.int .i64 i∧i≤n∧Nums wr la (VM.part L i)∧RFv wr K { v with d:={ v.d with depth:=v.d.depth-i } }∧Keeps (fun g=>K.foot g∨g=la) V wr) (fun iv _=>n-(intOf iv).toNat)
 case atStart =>
  refine ⟨0,rfl,Nat.zero_le _,HA.out,?_,Keeps.refl _ _⟩;have:=RV.out;rw [show ({ v with d:={ v.d with depth:=v.d.depth-((0:Nat):Int) } }:VM)=v by simp]
  exact this
 case round =>
  obtain ⟨i,rfl,hi,hn1,hr,hk⟩:=hrel;have HN:=h_ hn1;have HR:=h_ hr;have HK:=h_ hk;clear hn1 hr hk;by_cases hlt:i<n
  · obtain ⟨j,hj⟩:∃ j:Nat,j=n-1-i:=⟨_,rfl⟩
    have HP:=h_ (fv_pop K wr _ HR.out);rw [pop_is K V v RV.out i (by have:=HDD.out;omega)] at HP
    have hlv:(Stk.at_ v.x.mem v.d i).1=L.getD j 0:=by
     have hjl:j<(VM.tops v.x.mem v.d n).length:=by rw [VM.tops_len];omega
     rw [HL.out,List.getD,List.getElem?_eq_getElem hjl,Option.getD_some,VM.tops_get];congr 2
     omega
    rw [hlv] at HP;have hst:=VM.part_step L i (by have:=HLL.out;omega)
    rw [show L.length-1-i=j by have:=HLL.out;omega] at hst
    have HST:=h_ hst;have hje:(n:Int)-1-(i:Int)=(j:Int):=by omega
    have HJ:=h_ (show j<n from by omega)
    have q1:wr.cell? ⟨K.mb,1,none⟩=some (.pointer (some ⟨K.db,0,none⟩)):=HR.out.m1;have hj0:(0:Int)≤(j:Int):=by omega
    have hj1:(j:Int)<(n:Int):=by omega
    generalize L.getD j 0=x at HP HST;clear hlv hj hst;go_wp2_with fail;refine HP.out.mono ?_;rintro e w1 ⟨rfl,r1,k1⟩;have hN1:=HN.out.keeps k1 (HN.out.nf HR.out);have z0:w1.cell? ⟨la,j,none⟩=some (.int .i64 ((VM.part L i).getD j 0)):=hN1.cell (by rw [VM.part_len,HLL.out];exact HJ.out)
    have z1:=free_of (i:=j) hN1;have ks:Keeps (fun g=>g=la) w1 (w1.setCell ⟨la,j,none⟩ (.int .i64 x)):=Keeps.setCell _ _ _ (fun _=>rfl)
    have hS:Nums (w1.setCell ⟨la,j,none⟩ (.int .i64 x)) la (VM.part L (i+1)):=by
     have h1:=hset_same (i:=j) hN1 (.int .i64 x);unfold Nums;rw [h1,← HST.out];simp
    have N1:=h_ hS;have nla:=hN1.nf r1
    have R1:=h_ (r1.keeps ks ⟨fun e=>nla (by rw [← show K.mb=la from e];exact .inl rfl),fun e=>nla (by rw [← show K.s=la from e];exact .inr (.inl rfl)),ne_type' r1.vm.sp.mem.head hN1 rfl,fun e=>nla (by rw [← show K.bb=la from e];exact .inr (.inr (.inl rfl))),fun e=>nla (by rw [← show K.db=la from e];exact .inr (.inr (.inr (.inl rfl)))),fun e=>nla (by rw [← show K.rb=la from e];exact .inr (.inr (.inr (.inr rfl)))),ne_type' r1.hp hN1 rfl,(fun e=>by
     obtain ⟨nn,g,_,hmm,_⟩:=r1.vm.does
     exact MapIs.noRow (show MapIs ik w1 K.pb nn g from hmm) _ _ _ (by rw [show K.pb=la from e];exact hN1))⟩ (fun g hg e=>by
     have h1:=R0.out.xl g hg;have h2:=HLA.out;have e:g=la:=e
     omega))
    have K1:=h_ ((HK.out.trans (k1.mono (fun _ _ e=>.inl e))).trans (ks.mono (fun _ _ e=>.inr e)))
    clear ks hS nla r1 k1 hN1;go_wp2_with fail
    go_roundw
    case rel =>
     refine ⟨i+1,by go_num,hlt,N1.out,?_,K1.out⟩
     have:=R1.out;rw [show v.d.depth-((i+1:Nat):Int)=v.d.depth-i-1 by omega]
     exact this
    case measure=>simp [intOf];omega
  · have he:i=n:=by omega
    subst he;have hp:VM.part L i=L:=by rw [← HLL.out,VM.part_all]
    have NF:=h_ (hp ▸ HN.out);have KF:=h_ ((foot0 K KA.out).trans' HK.out (fun g hg e=>by rcases e with e | e;exact e;have:=HLA.out;omega))
    clear hp;go_wp2_with fail;go_ret2
    exact ⟨la,rfl,HL.out ▸ NF.out,HR.out,KF.out⟩
end
def Sixty (x:Int):Prop := -9223372036854775808≤x∧x≤9223372036854775807
def Enters (f:Nat):Prop:=∀ (args:Array Value) (w:World),(callFunc f args).run Tryz.prog w=.ok (.enter f args) w
structure DoOk (D:Int) (n f:Nat) (F:VM→List Int→VM × Int):Prop where
 ent:Enters f
 ok:∀ (K:Bk) (w:World) (v:VM) (la c:Nat) (L:List Int),RFv w K v→v.d.depth<D→Nums w la L→L.length=n→(∀ x ∈ L,Sixty x)→Calls Tryz.prog f #[.pointer (some ⟨K.mb,0,none⟩),.slice (some ⟨la,0,none⟩) n c] w (PV K w (F v L))
structure DoOk1 (D:Int) (n f:Nat) (u:Value) (F:VM→List Int→VM × Int):Prop where
 ent:Enters f
 ok:∀ (K:Bk) (w:World) (v:VM) (la c g:Nat) (L:List Int),RFv w K v→v.d.depth<D→K.X g→w.cell? ⟨g,0,none⟩=some u→Nums w la L→L.length=n→(∀ x ∈ L,Sixty x) →
  Calls Tryz.prog f #[.pointer (some ⟨K.mb,0,none⟩),.slice (some ⟨la,0,none⟩) n c,.pointer (some ⟨g,0,none⟩)] w (PV K w (F v L))
structure GetOk (f:Nat) (G:VM→VM × Int × Int):Prop where
 ent:Enters f
 ok:∀ (K:Bk) (w:World) (v:VM),RFv w K v→Calls Tryz.prog f #[.pointer (some ⟨K.mb,0,none⟩)] w (PV2 K w (G v))
structure ReadOk (f:Nat) (R:VM→Int→Int × Int):Prop where
 ent:Enters f
 ok:∀ (K:Bk) (w:World) (v:VM) (a:Int),RFv w K v→Sixty a→Calls Tryz.prog f #[.pointer (some ⟨K.mb,0,none⟩),.int .i64 a] w fun e w'=>e=.returned (.tuple #[.int .i64 (R v a).1,.int .i64 (R v a).2])∧Keeps (fun _=>False) w w'
structure PlainOk (f:Nat) (G:VM→VM × Int):Prop where
 ent:Enters f
 ok:∀ (K:Bk) (w:World) (v:VM),RFv w K v→Calls Tryz.prog f #[.pointer (some ⟨K.mb,0,none⟩)] w (PV K w (G v))
theorem tops_sixty (m:Mem) (d:Stk) (n:Nat):∀ x ∈ VM.tops m d n,Sixty x:=by
 intro x hx;unfold VM.tops at hx;obtain ⟨i,_,rfl⟩:=List.mem_map.1 hx;unfold Stk.at_;split
 · unfold Sixty;simp
 · split
   · unfold Sixty;simp
   · exact Mem.cell_bd _ _
theorem RFv.notX {w:World} {K:Bk} {v:VM} (h:RFv w K v) {g:Nat} (hg:K.X g):¬ K.foot g:=fun e=>by
 have:=h.vm.nx g hg
 rcases e with e | e | e | e | e
 · exact this.1 e
 · exact this.2.1 e
 · exact this.2.2.1 e
 · exact this.2.2.2.1 e
 · exact this.2.2.2.2 e
section
variable (K:Bk) (w:World) (v:VM)
theorem fv_with0 (D:Int) (n f:Nat) (F:VM→List Int→VM × Int) (hn:1≤n) (hn8:n≤8) (ok:DoOk D n f F) (ga gb:Nat) (h:RFv w K v) (hd:v.d.depth<D+1) (ha:w.cell? ⟨ga,0,none⟩=some (.int .i64 n)) (hb:w.cell? ⟨gb,0,none⟩=some (fnV f)) (xa:K.X ga) (xb:K.X gb) :
 Calls Tryz.prog 406 #[.pointer (some ⟨K.mb,0,none⟩),.pointer (some ⟨ga,0,none⟩),.pointer (some ⟨gb,0,none⟩)] w (PV K w (v.withN n F)):=by
 have HX:=h_ (And.intro (h.notX xa) (h.notX xb));have hent:∀ (args:Array Value) (w:World),(callFunc f args).run Tryz.prog w=.ok (.enter f args) w:=ok.ent;have HOK:=h_ ok;have HT:=h_ (tops_sixty v.x.mem v.d n)
 try unfold fnV at hb
 by_cases hc:v.d.depth<n
 · have HP:=h_ (fv_pops_few K w v n hn8 h hc)
   have hq:v.withN n F=(v,-4):=by unfold VM.withN;rw [if_pos hc]
   rw [hq];have R0:=h_ h;have K0:=h_ (Keeps.refl K.foot w);clear h hc hq hd
   go_enter Tryz.func406,Tryz.ntmps406
   go_wp2_with fail;refine (HP.out).mono ?_;rintro e w' ⟨rfl,rfl⟩;go_wp2_with fail;go_ret
   exact ⟨rfl,R0.out,K0.out⟩
 · have HP:=h_ (fv_pops K w v n hn8 h (by omega))
   have hq:v.withN n F=F { v with d:={ v.d with depth:=v.d.depth-n } } (VM.tops v.x.mem v.d n):=by unfold VM.withN;rw [if_neg hc]
   have HQ:=h_ hq;have HLL:=h_ (VM.tops_len v.x.mem v.d n);have HD:=h_ hd;have R0:=h_ h;have K0:=h_ (Keeps.refl K.foot w);clear h hc hq hd
   go_enter Tryz.func406,Tryz.ntmps406
   go_wp2_with fail;refine HP.out.mono ?_;rintro e w1 ⟨la,rfl,nu,r1,k1⟩;have N1:=h_ nu;have R1:=h_ r1;have K1:=h_ k1;have hb1:=k1.cell hb HX.out.2;clear hb nu r1 k1;go_wp2_with fail;refine (HOK.out.ok K w1 _ la n _ R1.out (by have:=HD.out;show v.d.depth-n<D;omega) N1.out HLL.out HT.out).mono ?_
   rintro e w2 ⟨rfl,r2,k2⟩;have R2:=h_ r2;have K2:=h_ (K1.out.trans k2);clear r2 k2
   skip
   go_wp2_with fail;go_ret
   rw [HQ.out];exact ⟨rfl,R2.out,K2.out⟩
theorem fv_with1 (D:Int) (n f:Nat) (u:Value) (F:VM→List Int→VM × Int) (hn:1≤n) (hn8:n≤8) (ok:DoOk1 D n f u F) (ga gb g:Nat) (h:RFv w K v) (hd:v.d.depth<D+1) (ha:w.cell? ⟨ga,0,none⟩=some (.int .i64 n)) (hb:w.cell? ⟨gb,0,none⟩=some (.func (.func f) #[] #[.pointer (some ⟨g,0,none⟩)])) (hu:w.cell? ⟨g,0,none⟩=some u) (xa:K.X ga) (xb:K.X gb) (xg:K.X g) :
 Calls Tryz.prog 406 #[.pointer (some ⟨K.mb,0,none⟩),.pointer (some ⟨ga,0,none⟩),.pointer (some ⟨gb,0,none⟩)] w (PV K w (v.withN n F)):=by
 have HU:=h_ (And.intro hu (h.notX xg));clear hu;have HX:=h_ (And.intro (h.notX xa) (h.notX xb));have hent:∀ (args:Array Value) (w:World),(callFunc f args).run Tryz.prog w=.ok (.enter f args) w:=ok.ent;have HOK:=h_ ok;have HT:=h_ (tops_sixty v.x.mem v.d n)
 try unfold fnV at hb
 by_cases hc:v.d.depth<n
 · have HP:=h_ (fv_pops_few K w v n hn8 h hc)
   have hq:v.withN n F=(v,-4):=by unfold VM.withN;rw [if_pos hc]
   rw [hq];have R0:=h_ h;have K0:=h_ (Keeps.refl K.foot w);clear h hc hq hd
   go_enter Tryz.func406,Tryz.ntmps406
   go_wp2_with fail;refine (HP.out).mono ?_;rintro e w' ⟨rfl,rfl⟩;go_wp2_with fail;go_ret
   exact ⟨rfl,R0.out,K0.out⟩
 · have HP:=h_ (fv_pops K w v n hn8 h (by omega))
   have hq:v.withN n F=F { v with d:={ v.d with depth:=v.d.depth-n } } (VM.tops v.x.mem v.d n):=by unfold VM.withN;rw [if_neg hc]
   have HQ:=h_ hq;have HLL:=h_ (VM.tops_len v.x.mem v.d n);have HD:=h_ hd;have R0:=h_ h;have K0:=h_ (Keeps.refl K.foot w);clear h hc hq hd
   go_enter Tryz.func406,Tryz.ntmps406
   go_wp2_with fail;refine HP.out.mono ?_;rintro e w1 ⟨la,rfl,nu,r1,k1⟩;have N1:=h_ nu;have R1:=h_ r1;have K1:=h_ k1;have hb1:=k1.cell hb HX.out.2;clear hb nu r1 k1;go_wp2_with fail;refine (HOK.out.ok K w1 _ la n g _ R1.out (by have:=HD.out;show v.d.depth-n<D;omega) xg (K1.out.cell HU.out.1 HU.out.2) N1.out HLL.out HT.out).mono ?_
   rintro e w2 ⟨rfl,r2,k2⟩;have R2:=h_ r2;have K2:=h_ (K1.out.trans k2);clear r2 k2
   skip
   go_wp2_with fail;go_ret
   rw [HQ.out];exact ⟨rfl,R2.out,K2.out⟩
theorem fv_pushof (f:Nat) (G:VM→VM × Int × Int) (ok:GetOk f G) (g:Nat) (h:RFv w K v) (hg:w.cell? ⟨g,0,none⟩=some (fnV f)) :
 Calls Tryz.prog 405 #[.pointer (some ⟨K.mb,0,none⟩),.pointer (some ⟨g,0,none⟩)] w (PV K w (VM.pushOf G v)):=by
 have hent:∀ (args:Array Value) (w:World),(callFunc f args).run Tryz.prog w=.ok (.enter f args) w:=ok.ent;have HG:=h_ (ok.ok K w v h);have hs:VM.pushOf G v=if (G v).2.2≠0 then ((G v).1,(G v).2.2) else (G v).1.push [(G v).2.1]:=rfl
 generalize VM.pushOf G v=Q at hs ⊢;generalize G v=q at hs HG;obtain ⟨v1,n,e⟩:=q;simp only at hs
 have HS:=h_ hs;unfold fnV at hg;have R0:=h_ h;have K0:=h_ (Keeps.refl K.foot w);clear h hs
 go_enter Tryz.func405,Tryz.ntmps405
 go_wp2_with fail;refine (HG.out).mono ?_;rintro e w1 ⟨rfl,r1,k1⟩;have R1:=h_ r1;have K1:=h_ (K0.out.trans k1);clear r1 k1
 skip
 by_cases h1:e=0
 · subst h1
   have hs:=HS.out;rw [if_neg (by simp)] at hs
   subst hs;clear HS;have c1:=R1.out.m1;go_wp2_with fail;refine (fv_push1p K w1 v1 n 2 R1.out).mono ?_;rintro e w2 ⟨rfl,r2,k2⟩;have R2:=h_ r2;have K2:=h_ (K1.out.trans k2);clear r2 k2
   try clear c1
   go_wp2_with fail;go_ret
   exact ⟨rfl,R2.out,K2.out⟩
 · have d1:(e != 0)=true:=by simp [h1]
   have hs:=HS.out;rw [if_pos h1] at hs;subst hs;clear HS h1;go_wp2_with fail;go_ret
   exact ⟨rfl,R1.out,K1.out⟩
end
section
variable (K:Bk) (w:World) (v:VM)
theorem intsV_get {L:List Int} {i:Nat} (h:i<L.length):(L.map (Value.int .i64))[i]?=some (.int .i64 (L.getD i 0)):=by simp [h]
theorem fv_moves (n:Nat) (l:List Int) (hn:1≤n) (hn8:n≤8) (hl:l.length≤8) (hp:∀ p ∈ l,0≤p∧p<n) (ga gb:Nat) (s:Option Addr) (c:Nat) (h:RFv w K v) (ha:w.cell? ⟨ga,0,none⟩=some (.int .i64 n)) (hb:w.cell? ⟨gb,0,none⟩=some (.slice s l.length c))
 (ho:Own w 3 1 s l.length c (l.map (Value.int .i64))) (xa:K.X ga) (xb:K.X gb) (xs:∀ g,blk s=some g→K.X g) :
 Calls Tryz.prog 409 #[.pointer (some ⟨K.mb,0,none⟩),.pointer (some ⟨ga,0,none⟩),.pointer (some ⟨gb,0,none⟩)] w (PV K w (v.withN n (VM.movesOf l))):=by
 have HX:=h_ (h.notX xb);have HXS:=h_ (fun g hg=>h.notX (xs g hg))
 have HO:=h_ ho;have HPL:=h_ hp;clear ho hp xs;by_cases hc:v.d.depth<n
 · have HP:=h_ (fv_pops_few K w v n hn8 h hc)
   have hq:v.withN n (VM.movesOf l)=(v,-4):=by unfold VM.withN;rw [if_pos hc]
   rw [hq];have R0:=h_ h;have K0:=h_ (Keeps.refl K.foot w);clear h hc hq
   go_enter Tryz.func409,Tryz.ntmps409
   go_wp2_with fail;refine (HP.out).mono ?_;rintro e w' ⟨rfl,rfl⟩;go_wp2_with fail;go_ret
   exact ⟨rfl,R0.out,K0.out⟩
 · have HP:=h_ (fv_pops K w v n hn8 h (by omega))
   obtain ⟨u,hu⟩:∃ u:VM,u={ v with d:={ v.d with depth:=v.d.depth-n } }:=⟨_,rfl⟩;obtain ⟨L,hL⟩:∃ L,L=VM.tops v.x.mem v.d n:=⟨_,rfl⟩;have hq:v.withN n (VM.movesOf l)=u.push (l.map fun p=>L.getD p.toNat 0):=by unfold VM.withN;rw [if_neg hc,hu,hL];rfl
   have HQ:=h_ hq;have HLL:=h_ (show L.length=n by rw [hL];exact VM.tops_len v.x.mem v.d n)
   unfold PopsPost at HP;rw [← hu,← hL] at HP;have R0:=h_ h;have K0:=h_ (Keeps.refl K.foot w);clear h hc hq hu hL
   go_enter Tryz.func409,Tryz.ntmps409
   go_wp2_with fail;refine HP.out.mono ?_;rintro e w1 ⟨la,rfl,nu,r1,k1⟩;have N1:=h_ nu;have R1:=h_ r1;have K1:=h_ k1;have hb1:=k1.cell hb HX.out;have O1:=h_ (HO.out.keeps k1 (fun g hg=>HXS.out g hg))
   clear hb nu r1 k1 HP HO;go_wp2_with fail
   go_loopw [7,21] (fun sv iv wr=>∃ (i:Nat) (a:Option Addr) (c:Nat) (P:List Int),sv=.slice a P.length c∧iv=.int .i64 i∧i≤l.length∧P=(l.take i).map (fun p=>L.getD p.toNat 0)∧OwnI w1 wr a c P∧Keeps (fun _=>False) w1 wr) (fun _ iv _=>l.length-(intOf iv).toNat)
   case atStart=>exact ⟨0,none,0,[],rfl,rfl,Nat.zero_le _,rfl,OwnI.nil _ _,Keeps.refl _ _⟩
   case round =>
    obtain ⟨i,a,c2,P,rfl,rfl,hi,hP,ho,hk⟩:=hrel;have HO:=h_ ho;have HK:=h_ hk;have HP:=h_ hP;have hPl:P.length=i:=by rw [hP];simp;omega
    have HPN:=h_ hPl;clear ho hk hP hPl;by_cases hlt:i<l.length
    · have hi0:(0:Int)≤(i:Int):=by omega
      obtain ⟨p,hp⟩:∃ p,p=l.getD i 0:=⟨_,rfl⟩;have hpm:p ∈ l:=by rw [hp];simp [hlt]
      have hpb:=HPL.out p hpm;obtain ⟨q,rfl⟩:∃ q:Nat,p=q:=⟨p.toNat,by omega⟩
      obtain ⟨⟨gs,so⟩,hs,hcs⟩:∃ x:Nat × Nat,s=some ⟨x.1,0,none⟩∧wr.cell? ⟨x.1,i,none⟩=some (.int .i64 (q:Int)):=by
       rcases (O1.out.keeps HK.out (fun _ _=>id)).form with ⟨e1,e2,_⟩ | ⟨g,cur,e1,_⟩
       · omega
       · refine ⟨(g,0),e1,?_⟩
         subst e1;have:=(O1.out.keeps HK.out (fun _ _=>id)).cell (j:=i) (u:=.int .i64 (q:Int)) (by rw [intsV_get hlt,hp])
         exact this
      subst hs;have hq0:q<n:=by omega
      have hln:=(N1.out.keeps HK.out id).cell (i:=q) (by rw [HLL.out];exact hq0)
      have HX2:=h_ (show (l.take (i+1)).map (fun p=>L.getD p.toNat 0)=P++[L.getD q 0] from by
       rw [HP.out,show l.take (i+1)=l.take i++[l[i]] from by simp]
       have:l[i]=(q:Int):=by rw [hp];simp [hlt]
       rw [this]
       simp)
      have hq1:(0:Int)≤(q:Int):=by omega
      have hq2:(q:Int)<(n:Int):=by omega
      generalize L.getD q 0=x at hln HX2;clear hp hpm hpb
      go_wp2_with (first
       | (at_builtin;refine wpList_app rfl _ _ 22 rfl 2 _ 1 8 Tryz.underlying22 infoInt rfl (by decide) a P.length c2 (intV P) rfl ?t1 ⟨wr.heap.size,0,none⟩ 1 1 [.int .i64 x] rfl rfl (int_news wr x) (int_one x) ?t3 ?t4 ?_))
      case t1=>exact HO.out.1.keeps (ka_ wr _) (fun _ _=>id)
      case t3=>have:=HPN.out;unfold maxLen;omega
      case t4=>have:=HPN.out;omega
      intro a4 c4 w4 o4 k4 l4;have hsz:=HK.out.size;have ka:=ka_ wr (.cells #[.int .i64 x] 2);have O4:=h_ ((HO.out.keeps ka (fun _ _=>id)).more x o4 _ l4 (by omega))
      have K4:=h_ ((HK.out.trans ka).trans' k4 (fun i hi e=>absurd (HO.out.2 i e) (by omega)))
      clear ka o4 k4 l4;go_wp2_with fail
      go_roundw
      case rel=>exact ⟨i+1,a4,c4,P++[x],by rw [List.length_append];rfl,by go_num,by omega,HX2.out.symm,O4.out,K4.out⟩
      case measure=>simp [intOf];omega
    · have hge:i=l.length:=by omega
      subst hge;have hPP:P=l.map (fun p=>L.getD p.toNat 0):=by rw [HP.out,List.take_length]
      have R2:=h_ (R1.out.keeps0 HK.out);have K2:=h_ (K1.out.trans (foot0 K HK.out));have c1:=R2.out.m1
      have HPU:=h_ ((fv_push K wr u R2.out a c2 P HO.out.arg (by have:=HPN.out;omega) (fun g hg=>by
       have h1:=HO.out.2 g hg;have h2:=R1.out.lts
       omega)).mono (fun _ _ h=>h.pv))
      rw [hPP] at HPU;have HPE:=h_ hPP;clear hPP;go_wp2_with fail;have hl2:P.length=(l.map (fun p=>L.getD p.toNat 0)).length:=by rw [HPE.out]
      rw [hl2];clear hl2;refine (HPU.out).mono ?_;rintro e w3 ⟨rfl,r3,k3⟩;have R3:=h_ r3;have K3:=h_ (K2.out.trans k3);clear r3 k3
      try clear c1;try clear c2;try clear c4
      go_wp2_with fail;go_ret
      rw [HQ.out];exact ⟨rfl,R3.out,K3.out⟩
end
theorem get_inline:GetOk 297 VM.inline:=⟨fun args w=>Tryz.call297 args w,fun K w v h=>fv_inline K w v h⟩
theorem plain_exit:PlainOk 295 (fun v=>let q:=v.rpop;({ q.1 with ip:=q.2.1 },q.2.2)):=by
 refine ⟨fun args w=>Tryz.call295 args w,?_⟩
 intro K w v h;have HP:=h_ (fv_rpop K w v h);have R0:=h_ h;have K0:=h_ (Keeps.refl K.foot w);have c2:=R0.out.m2;clear h;simp only
 generalize v.rpop=q at HP ⊢;obtain ⟨v1,n,e⟩:=q
 go_enter Tryz.func295,Tryz.ntmps295
 go_wp2_with fail;refine (HP.out).mono ?_;rintro e w1 ⟨rfl,r1,k1⟩;have R1:=h_ r1;have K1:=h_ (K0.out.trans k1);clear r1 k1
 try clear c2
 have c5:=R1.out.m5;have f5:=R1.out.free 5;have R2:=h_ (R1.out.setIp n);have K2:=h_ (K1.out.trans (foot_mb K (Keeps.setCell w1 ⟨K.mb,5,none⟩ (.int .i64 n) (fun _=>rfl))))
 go_wp2_with fail;go_ret
 exact ⟨rfl,R2.out,K2.out⟩
theorem plain_branch:PlainOk 298 (fun v=>let q:=v.inline;({ q.1 with ip:=q.2.1 },q.2.2)):=by
 refine ⟨fun args w=>Tryz.call298 args w,?_⟩
 intro K w v h;have HP:=h_ (fv_inline K w v h);have R0:=h_ h;have K0:=h_ (Keeps.refl K.foot w);clear h;simp only
 generalize v.inline=q at HP ⊢;obtain ⟨v1,n,e⟩:=q
 go_enter Tryz.func298,Tryz.ntmps298
 go_wp2_with fail;refine (HP.out).mono ?_;rintro e w1 ⟨rfl,r1,k1⟩;have R1:=h_ r1;have K1:=h_ (K0.out.trans k1);clear r1 k1
 skip
 have c5:=R1.out.m5;have f5:=R1.out.free 5;have R2:=h_ (R1.out.setIp n);have K2:=h_ (K1.out.trans (foot_mb K (Keeps.setCell w1 ⟨K.mb,5,none⟩ (.int .i64 n) (fun _=>rfl))))
 go_wp2_with fail;go_ret
 exact ⟨rfl,R2.out,K2.out⟩
theorem do_0branch (D:Int):DoOk D 1 300 (VM.one1 fun v n=>let q:=v.inline;(if q.2.2=0∧n=0 then { q.1 with ip:=q.2.1 } else q.1,q.2.2)):=by
 refine ⟨fun args w=>Tryz.call300 args w,?_⟩
 intro K w v la c L h hd hN hl hb;obtain ⟨x,rfl⟩:∃ x,L=[x]:=List.length_eq_one_iff.1 hl;have q0:w.cell? ⟨la,0,none⟩=some (.int .i64 x):=hN.cell (i:=0) (by simp)
 have hx:Sixty x:=hb x (by simp)
 have HNF:=h_ (hN.nf h);have HNN:=h_ hN;clear hN hl hb;have R0:=h_ h;have K0:=h_ (Keeps.refl K.foot w);have HP:=h_ (fv_inline K w v h);clear h hd;unfold VM.one1;simp only [List.getD_cons_zero]
 generalize v.inline=q at HP ⊢;obtain ⟨v1,n,e⟩:=q;simp only
 by_cases h1:e=0
 · subst h1
   by_cases h2:x=0
   · rw [if_pos ⟨rfl,h2⟩]
     subst h2
     go_enter Tryz.func300,Tryz.ntmps300
     go_wp2_with fail;refine (HP.out).mono ?_;rintro e w1 ⟨rfl,r1,k1⟩;have R1:=h_ r1;have K1:=h_ (K0.out.trans k1);clear r1 k1
     skip
     have q1:=K1.out.cell q0 HNF.out;have c5:=R1.out.m5;have f5:=R1.out.free 5;have R2:=h_ (R1.out.setIp n);have K2:=h_ (K1.out.trans (foot_mb K (Keeps.setCell w1 ⟨K.mb,5,none⟩ (.int .i64 n) (fun _=>rfl))))
     go_wp2_with fail;go_ret
     exact ⟨rfl,R2.out,K2.out⟩
   · rw [if_neg (fun h=>h2 h.2)]
     have d2:(x == 0)=false:=by simp [h2]
     clear h2
     go_enter Tryz.func300,Tryz.ntmps300
     go_wp2_with fail;refine (HP.out).mono ?_;rintro e w1 ⟨rfl,r1,k1⟩;have R1:=h_ r1;have K1:=h_ (K0.out.trans k1);clear r1 k1
     try clear c5
     have q1:=K1.out.cell q0 HNF.out;go_wp2_with fail;go_ret
     exact ⟨rfl,R1.out,K1.out⟩
 · rw [if_neg (fun h=>h1 h.1)]
   have d1:(e == 0)=false:=by simp [h1]
   clear h1
   go_enter Tryz.func300,Tryz.ntmps300
   go_wp2_with fail;refine (HP.out).mono ?_;rintro e w1 ⟨rfl,r1,k1⟩;have R1:=h_ r1;have K1:=h_ (K0.out.trans k1);clear r1 k1
   try clear c5
   go_wp2_with fail;go_ret
   exact ⟨rfl,R1.out,K1.out⟩
theorem do_do (D:Int):DoOk D 2 301 (fun v l=>v.rpush l):=by
 refine ⟨fun args w=>Tryz.call301 args w,?_⟩
 intro K w v la c L h hd hN hl hb;obtain ⟨x,y,rfl⟩:∃ x y,L=[x,y]:=by match L,hl with | [x,y],_=>exact ⟨x,y,rfl⟩
 have q0:w.cell? ⟨la,0,none⟩=some (.int .i64 x):=hN.cell (i:=0) (by simp)
 have q1:w.cell? ⟨la,1,none⟩=some (.int .i64 y):=hN.cell (i:=1) (by simp)
 have hx:Sixty x:=hb x (by simp)
 have hy:Sixty y:=hb y (by simp)
 have HNF:=h_ (hN.nf h);have HNN:=h_ hN;clear hN hl hb;have R0:=h_ h;have K0:=h_ (Keeps.refl K.foot w);have HP:=h_ ((fv_rpush K w v h (some ⟨la,0,none⟩) c [x,y] HNN.out.arg (show 2≤1048576 by decide) (fun g e=>by cases e;exact ⟨fun e=>HNF.out (.inr (.inr (.inr (.inr e)))),fun e=>HNF.out (.inr (.inr (.inl e)))⟩)).mono (fun _ _ h=>h.pv))
 have c2:=R0.out.m2;clear h hd
 go_enter Tryz.func301,Tryz.ntmps301
 go_wp2_with fail;refine (HP.out).mono ?_;rintro e w1 ⟨rfl,r1,k1⟩;have R1:=h_ r1;have K1:=h_ (K0.out.trans k1);clear r1 k1
 try clear c2
 go_wp2_with fail;go_ret
 exact ⟨rfl,R1.out,K1.out⟩
theorem get_i:GetOk 305 (fun v=>(v,Stk.at_ v.x.mem v.r 0)):=by
 refine ⟨fun args w=>Tryz.call305 args w,?_⟩
 intro K w v h;have HP:=h_ (fv_rat K w v 0 h);have R0:=h_ h;have K0:=h_ (Keeps.refl K.foot w);have c2:=R0.out.m2;clear h
 go_enter Tryz.func305,Tryz.ntmps305
 go_wp2_with fail;refine (HP.out).mono ?_;rintro e w1 ⟨rfl,r1,k1⟩;have R1:=h_ r1;have K1:=h_ (K0.out.trans k1);clear r1 k1
 try clear c2
 go_wp2_with fail;go_ret2
 exact ⟨rfl,R1.out,K1.out⟩
theorem get_j:GetOk 306 (fun v=>(v,Stk.at_ v.x.mem v.r 2)):=by
 refine ⟨fun args w=>Tryz.call306 args w,?_⟩
 intro K w v h;have HP:=h_ (fv_rat K w v 2 h);have R0:=h_ h;have K0:=h_ (Keeps.refl K.foot w);have c2:=R0.out.m2;clear h
 go_enter Tryz.func306,Tryz.ntmps306
 go_wp2_with fail;refine (HP.out).mono ?_;rintro e w1 ⟨rfl,r1,k1⟩;have R1:=h_ r1;have K1:=h_ (K0.out.trans k1);clear r1 k1
 try clear c2
 go_wp2_with fail;go_ret2
 exact ⟨rfl,R1.out,K1.out⟩
theorem plain_bye:PlainOk 311 (fun v=>({ v with over:=true },0)):=by
 refine ⟨fun args w=>Tryz.call311 args w,?_⟩
 intro K w v h;have R0:=h_ h;have K0:=h_ (Keeps.refl K.foot w);have c13:=R0.out.m13;have f13:=R0.out.free 13;have R1:=h_ (h.setOver true);have K1:=h_ (foot_mb K (Keeps.setCell w ⟨K.mb,13,none⟩ (.bool true) (fun _=>rfl)))
 clear h
 go_enter Tryz.func311,Tryz.ntmps311
 go_wp2_with fail;go_ret
 exact ⟨rfl,R1.out,K1.out⟩
section
variable (K:Bk) (w:World) (v:VM)
theorem fv_unloop (h:RFv w K v):Calls Tryz.prog 308 #[.pointer (some ⟨K.mb,0,none⟩)] w (PV K w v.unloop):=by
 have HD:=h_ (fv_rdepth K w v h);obtain ⟨o1,o2,o3,o4,o5,o6,o7⟩:=h.vm.rk.ok;by_cases hc:v.r.depth<2
 · have hq:v.unloop=(v,-6):=by unfold VM.unloop;rw [if_pos hc]
   rw [hq];have d1:decide (v.r.depth<2)=true:=decide_eq_true hc;have R0:=h_ h;have K0:=h_ (Keeps.refl K.foot w);have c2:=R0.out.m2;clear h hq hc
   go_enter Tryz.func308,Tryz.ntmps308
   go_wp2_with fail;refine (HD.out).mono ?_;rintro e w' ⟨rfl,rfl⟩;go_wp2_with fail;go_ret
   exact ⟨rfl,R0.out,K0.out⟩
 · have hq:v.unloop=v.rdrop (v.r.depth-2):=by unfold VM.unloop;rw [if_neg hc]
   rw [hq];have d1:decide (v.r.depth<2)=false:=decide_eq_false hc;have HDD:=h_ (fun V (hV:RFv V K v)=>fv_rdepth K V v hV)
   have HDR:=h_ (fun V (hV:RFv V K v)=>(stk_drop V K.rb K.b v.r (v.r.depth-2) hV.vm.rk).mono fun e w' (⟨he,hd,k⟩:e=_∧RStk w' K.rb K.b _∧Keeps (fun k=>k=K.rb) V w')=>(show PVr K V (v.rdrop (v.r.depth-2)) e w' from ⟨he,hV.withR k hd (stk_drop_same _ _),k.mono (fun _ _ e=>.inl e)⟩))
   have hdw:IntKind.i64.wrap (v.r.depth-2)=v.r.depth-2:=IntWalk.i64_in _ (by omega)
   have HN:=h_ (mb_nr K w v h);have R0:=h_ h;have K0:=h_ (Keeps.refl K.foot w);have c2:=R0.out.m2;generalize v.rdrop (v.r.depth-2)=q at HDR ⊢;clear h hq hc
   go_enter Tryz.func308,Tryz.ntmps308
   go_wp2_with fail;refine (HD.out).mono ?_;rintro e w' ⟨rfl,rfl⟩;go_wp2_with fail
   go_region_held3 (fun w'=>w'.cell? ⟨K.mb,2,none⟩=some (.pointer (some ⟨K.rb,0,none⟩)))
    (first | go_keep | exact t2)
    (first
      | (go_at_call 18;refine (HDD.out w.drew (R0.out.keeps0 (Keeps.drew _ _))).mono ?_;rintro e w2 ⟨rfl,rfl⟩;dsimp only)
      | (go_at_call 53;refine (HDR.out w.drew (R0.out.keeps0 (Keeps.drew _ _))).mono ?_;rintro e w1 ⟨rfl,r1,k1⟩;dsimp only;have t2:=k1.cell c2 HN.out))
   have R1:=h_ r1;have K1:=h_ ((Keeps.drew K.foot w).trans (foot_rbb K k1));clear t2 r1 k1;go_wp2_with fail;go_ret
   exact ⟨rfl,R1.out,K1.out⟩
end
theorem plain_unloop:PlainOk 307 VM.unloop:=by
 refine ⟨fun args w=>Tryz.call307 args w,?_⟩
 intro K w v h;have HP:=h_ (fv_unloop K w v h);have R0:=h_ h;have K0:=h_ (Keeps.refl K.foot w);clear h
 go_enter Tryz.func307,Tryz.ntmps307
 go_wp2_with fail;refine (HP.out).mono ?_;rintro e w1 ⟨rfl,r1,k1⟩;have R1:=h_ r1;have K1:=h_ (K0.out.trans k1);clear r1 k1
 skip
 go_wp2_with fail;go_ret
 exact ⟨rfl,R1.out,K1.out⟩
theorem do_qdup (D:Int):DoOk D 1 313 (VM.one1 fun v n=>if n=0 then v.push [0] else v.push [n,n]):=by
 refine ⟨fun args w=>Tryz.call313 args w,?_⟩
 intro K w v la c L h hd hN hl hb;obtain ⟨x,rfl⟩:∃ x,L=[x]:=List.length_eq_one_iff.1 hl;have q0:w.cell? ⟨la,0,none⟩=some (.int .i64 x):=hN.cell (i:=0) (by simp)
 have hx:Sixty x:=hb x (by simp)
 have HNF:=h_ (hN.nf h);have HNN:=h_ hN;clear hN hl hb;have R0:=h_ h;have K0:=h_ (Keeps.refl K.foot w);have HN:=h_ (mb_nd K w v h);have HQ:=h_ (show ¬ (la=K.db∨la=K.bb) from fun e=>e.elim (fun e=>HNF.out (.inr (.inr (.inr (.inl e))))) (fun e=>HNF.out (.inr (.inr (.inl e)))))
 have c1:=R0.out.m1;unfold VM.one1;simp only [List.getD_cons_zero]
 by_cases h1:x=0
 · subst h1
   rw [if_pos rfl];have HP:=h_ (fv_push1p K w v 0 2 h);clear h hd
   go_enter Tryz.func313,Tryz.ntmps313
   go_wp2_with fail;refine (HP.out).mono ?_;rintro e w1 ⟨rfl,r1,k1⟩;have R1:=h_ r1;have K1:=h_ (K0.out.trans k1);clear r1 k1
   try clear c1
   go_wp2_with fail;go_ret
   exact ⟨rfl,R1.out,K1.out⟩
 · rw [if_neg h1]
   have d1:(x == 0)=false:=by simp [h1]
   have HP:=h_ fun V (hV:RFv V K v)=>fv_push2d K V v x x 2 hV
   clear h hd h1
   go_enter Tryz.func313,Tryz.ntmps313
   go_wp2_with fail
   go_region_held3 (fun w'=>w'.cell? ⟨K.mb,1,none⟩=some (.pointer (some ⟨K.db,0,none⟩))∧w'.cell? ⟨la,0,none⟩=some (.int .i64 x))
    (first | go_keep | exact ⟨t1,tq⟩)
    (first | (go_at_call 80;refine (HP.out w R0.out).mono ?_;rintro e w1 ⟨rfl,r1,k1⟩;dsimp only;have t1:=k1.cell c1 HN.out;have tq:=k1.cell q0 HQ.out))
   have R1:=h_ r1;have K1:=h_ (K0.out.trans (foot_dbb K k1));clear t1 tq r1 k1;go_wp2_with fail;go_ret
   exact ⟨rfl,R1.out,K1.out⟩
theorem do_pick (D:Int):DoOk D 1 314 (VM.one1 fun v n=>if n<0∨v.d.depth≤n then (v,-4) else v.push [(Stk.at_ v.x.mem v.d n).1]):=by
 refine ⟨fun args w=>Tryz.call314 args w,?_⟩
 intro K w v la c L h hd hN hl hb;obtain ⟨x,rfl⟩:∃ x,L=[x]:=List.length_eq_one_iff.1 hl;have q0:w.cell? ⟨la,0,none⟩=some (.int .i64 x):=hN.cell (i:=0) (by simp)
 have hx:Sixty x:=hb x (by simp)
 have HNF:=h_ (hN.nf h);have HNN:=h_ hN;clear hN hl hb;have R0:=h_ h;have K0:=h_ (Keeps.refl K.foot w);have c1:=R0.out.m1;unfold VM.one1;simp only [List.getD_cons_zero]
 have hC:=h_ fun (q:Stay w)=>(fv_depth K q.1 v (h.keeps0 q.2)).mono (fun e w' (h:_∧_)=>(⟨h.1,h.2 ▸ Keeps.refl (fun _=>False) _⟩:_∧Keeps (fun _=>False) q.1 w'))
 have hA:=h_ fun (q:Stay w)=>stk_at q.1 K.db K.b K.bb v.d v.x.mem x (h.keeps0 q.2).vm.dk (h.keeps0 q.2).vm.sp.mem
 have y1:=fun (q:Stay w)=>q.2.cell h.m1 id
 have yq:=fun (q:Stay w)=>q.2.cell q0 id
 by_cases h1:x<0
 · rw [if_pos (.inl h1)]
   have d1:decide (x<0)=true:=decide_eq_true h1;clear h hd h1
   go_enter Tryz.func314,Tryz.ntmps314
   go_wp2_with fail;refine Go.Proofs.K.wp_region_calm ?calm1a ?calm1b ?_
   case calm1a=>kernel_rfl
   case calm1b=>kernel_rfl
   repeat ((with_reducible refine wpQuiet_step ?_);intro Kq hKq;go_simp;first | ((with_reducible refine hKq _ ?_);clear hKq Kq) | (refine hKq _ ?_;clear hKq Kq) | (apply Exists.intro;refine ⟨fun _=>?_,hKq _ ?_⟩;(first | exact Go.Proofs.K.calm_of (hC.out _));clear hKq Kq))
   with_reducible refine wpQuiet_nil ?_
   intro w1 hw';obtain ⟨⟨wq,kq⟩,hw''⟩:=hw';subst hw'';have R1:=h_ (R0.out.keeps0 kq);have K1:=h_ (foot0 K kq);go_wp2_with fail;go_ret
   exact ⟨rfl,R1.out,K1.out⟩
 · have d1:decide (x<0)=false:=decide_eq_false h1
   by_cases h2:v.d.depth≤x
   · rw [if_pos (.inr h2)]
     have d2:decide (v.d.depth≤x)=true:=decide_eq_true h2;clear h hd h1 h2
     go_enter Tryz.func314,Tryz.ntmps314
     go_wp2_with fail;refine Go.Proofs.K.wp_region_calm ?calm2a ?calm2b ?_
     case calm2a=>kernel_rfl
     case calm2b=>kernel_rfl
     repeat ((with_reducible refine wpQuiet_step ?_);intro Kq hKq;go_simp;first | ((with_reducible refine hKq _ ?_);clear hKq Kq) | (refine hKq _ ?_;clear hKq Kq) | (apply Exists.intro;refine ⟨fun _=>?_,hKq _ ?_⟩;(first | exact Go.Proofs.K.calm_of (hC.out _));clear hKq Kq))
     with_reducible refine wpQuiet_nil ?_
     intro w1 hw';obtain ⟨⟨wq,kq⟩,hw''⟩:=hw';subst hw'';have R1:=h_ (R0.out.keeps0 kq);have K1:=h_ (foot0 K kq);go_wp2_with fail;go_ret
     exact ⟨rfl,R1.out,K1.out⟩
   · rw [if_neg (fun e=>e.elim h1 h2)]
     have d2:decide (v.d.depth≤x)=false:=decide_eq_false h2;have HP:=h_ fun V (hV:RFv V K v)=>fv_push1p K V v (Stk.at_ v.x.mem v.d x).1 2 hV
     generalize Stk.at_ v.x.mem v.d x=q at HP hA ⊢;obtain ⟨n,e⟩:=q;clear h hd h1 h2
     go_enter Tryz.func314,Tryz.ntmps314
     go_wp2_with fail;refine Go.Proofs.K.wp_region_calm ?calm3a ?calm3b ?_
     case calm3a=>kernel_rfl
     case calm3b=>kernel_rfl
     repeat ((with_reducible refine wpQuiet_step ?_);intro Kq hKq;go_simp;first | ((with_reducible refine hKq _ ?_);clear hKq Kq) | (refine hKq _ ?_;clear hKq Kq) | (apply Exists.intro;refine ⟨fun _=>?_,hKq _ ?_⟩;(first | exact Go.Proofs.K.calm_of (hC.out _));clear hKq Kq))
     with_reducible refine wpQuiet_nil ?_
     intro w1 hw';obtain ⟨⟨wq,kq⟩,hw''⟩:=hw';subst hw'';have R1:=h_ (R0.out.keeps0 kq);have K1:=h_ (foot0 K kq);have y1:=fun (q:Stay w1)=>q.2.cell R1.out.m1 id
     have yq:=fun (q:Stay w1)=>(kq.trans q.2).cell q0 id
     have hC:=h_ fun (q:Stay w1)=>(hA.out ⟨q.1,kq.trans q.2⟩)
     clear hA;go_wp2_with fail;clear c1;refine Go.Proofs.K.wp_region_calm ?calm4a ?calm4b ?_
     case calm4a=>kernel_rfl
     case calm4b=>kernel_rfl
     repeat ((with_reducible refine wpQuiet_step ?_);intro Kq hKq;go_simp;first | ((with_reducible refine hKq _ ?_);clear hKq Kq) | (refine hKq _ ?_;clear hKq Kq) | (apply Exists.intro;refine ⟨fun _=>?_,hKq _ ?_⟩;(first | exact Go.Proofs.K.calm_of (hC.out _));clear hKq Kq))
     with_reducible refine wpQuiet_nil ?_
     intro w2 hw';obtain ⟨⟨wq,kq⟩,hw''⟩:=hw';subst hw'';have R2:=h_ (R1.out.keeps0 kq);have K2:=h_ (K1.out.trans (foot0 K kq));clear y1 yq hC;have c1:=R2.out.m1;go_wp2_with fail;refine (HP.out w2 R2.out).mono ?_;rintro e w3 ⟨rfl,r3,k3⟩;have R3:=h_ r3;have K3:=h_ (K2.out.trans k3);clear r3 k3
     try clear c1
     go_wp2_with fail;go_ret
     exact ⟨rfl,R3.out,K3.out⟩
theorem get_depth:GetOk 315 (fun v=>(v,v.d.depth,0)):=by
 refine ⟨fun args w=>Tryz.call315 args w,?_⟩
 intro K w v h;have HP:=h_ (fv_depth K w v h);have R0:=h_ h;have K0:=h_ (Keeps.refl K.foot w);have c1:=R0.out.m1;clear h
 go_enter Tryz.func315,Tryz.ntmps315
 go_wp2_with fail;refine (HP.out).mono ?_;rintro e w' ⟨rfl,rfl⟩;go_wp2_with fail;go_ret2
 exact ⟨rfl,R0.out,K0.out⟩
theorem do_tor (D:Int):DoOk D 1 316 (VM.one1 fun v n=>v.rpush [n]):=by
 refine ⟨fun args w=>Tryz.call316 args w,?_⟩
 intro K w v la c L h hd hN hl hb;obtain ⟨x,rfl⟩:∃ x,L=[x]:=List.length_eq_one_iff.1 hl;have q0:w.cell? ⟨la,0,none⟩=some (.int .i64 x):=hN.cell (i:=0) (by simp)
 have hx:Sixty x:=hb x (by simp)
 have HNF:=h_ (hN.nf h);have HNN:=h_ hN;clear hN hl hb;have R0:=h_ h;have K0:=h_ (Keeps.refl K.foot w);have HN:=h_ (mb_nr K w v h);have HQ:=h_ (show ¬ (la=K.rb∨la=K.bb) from fun e=>e.elim (fun e=>HNF.out (.inr (.inr (.inr (.inr e))))) (fun e=>HNF.out (.inr (.inr (.inl e)))))
 have c2:=R0.out.m2;unfold VM.one1;simp only [List.getD_cons_zero]
 have HP:=h_ fun V (hV:RFv V K v)=>fv_rpush1d K V v x 2 hV
 clear h hd
 go_enter Tryz.func316,Tryz.ntmps316
 go_wp2_with fail
 go_region_held3 (fun w'=>w'.cell? ⟨K.mb,2,none⟩=some (.pointer (some ⟨K.rb,0,none⟩))∧w'.cell? ⟨la,0,none⟩=some (.int .i64 x))
  (first | go_keep | exact ⟨t1,tq⟩)
  (first | (go_at_call 80;refine (HP.out w R0.out).mono ?_;rintro e w1 ⟨rfl,r1,k1⟩;dsimp only;have t1:=k1.cell c2 HN.out;have tq:=k1.cell q0 HQ.out))
 have R1:=h_ r1;have K1:=h_ (K0.out.trans (foot_rbb K k1));clear t1 tq r1 k1;go_wp2_with fail;go_ret
 exact ⟨rfl,R1.out,K1.out⟩
theorem get_rfrom:GetOk 317 VM.rpop:=by
 refine ⟨fun args w=>Tryz.call317 args w,?_⟩
 intro K w v h;have HP:=h_ (fv_rpop K w v h);have R0:=h_ h;have K0:=h_ (Keeps.refl K.foot w);have c2:=R0.out.m2;clear h;generalize v.rpop=q at HP ⊢;obtain ⟨v1,n,e⟩:=q
 go_enter Tryz.func317,Tryz.ntmps317
 go_wp2_with fail;refine (HP.out).mono ?_;rintro e w1 ⟨rfl,r1,k1⟩;have R1:=h_ r1;have K1:=h_ (K0.out.trans k1);clear r1 k1
 try clear c2
 go_wp2_with fail;go_ret2
 exact ⟨rfl,R1.out,K1.out⟩
theorem get_rat:GetOk 318 (fun v=>(v,Stk.at_ v.x.mem v.r 0)):=by
 refine ⟨fun args w=>Tryz.call318 args w,?_⟩
 intro K w v h;have HP:=h_ (fv_rat K w v 0 h);have R0:=h_ h;have K0:=h_ (Keeps.refl K.foot w);have c2:=R0.out.m2;clear h
 go_enter Tryz.func318,Tryz.ntmps318
 go_wp2_with fail;refine (HP.out).mono ?_;rintro e w1 ⟨rfl,r1,k1⟩;have R1:=h_ r1;have K1:=h_ (K0.out.trans k1);clear r1 k1
 try clear c2
 go_wp2_with fail;go_ret2
 exact ⟨rfl,R1.out,K1.out⟩
end Go.Proofs.Shed
