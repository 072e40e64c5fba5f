/- Of CallsG: WMacA, WMacC, WVmC, WNumB, WRfF. No condition. -/
import Derived.Test.YthhfkhhhclmimaaGreatDoorM09
import Derived.Test.YthhfkhhhclmimaaGreatDoorM15
import Derived.Test.YthhfkhhhclmimaaGreatDoorM30
import Derived.Test.YthhfkhhhclmimaaGreatDoorM27
set_option linter.unusedVariables false
set_option linter.unusedSimpArgs false
set_option maxRecDepth 10000
set_option maxHeartbeats 4000000
namespace Go.Proofs.Shed
open Go Go.RowKit Go.Proofs.K
theorem vm_base (w:World) (mb s b bb:Nat) (c:Mc) (x:Sp) (hc:RMc w mb c) (hs:c.sp=some s) (h:RSp w s b bb x) :
 Calls Tryz.prog 140 #[.pointer (some ⟨mb,0,none⟩)] w fun e w'=>e=.returned (.int .i64 (x.mem.cell c.base).1)∧Keeps (fun _=>False) w w':=by
 have c0:w.cell? ⟨mb,0,none⟩=some (.pointer (some ⟨s,0,none⟩)):=by rw [hc.c0,hs];rfl
 have x0:=fun (q:Stay w)=>q.2.cell c0 id
 have x14:=fun (q:Stay w)=>q.2.cell hc.c14 id
 have y0:=fun (q:Stay w)=>q.2.cell h.c0 id
 have hC:=h_ fun (q:Stay w)=>(mem_cell q.1 b bb x.mem c.base (h.mem.keeps q.2 id id)).mono (fun e w' (h:_∧_)=>(⟨h.1,h.2 ▸ Keeps.refl (fun _=>False) _⟩:_∧Keeps (fun _=>False) q.1 w'))
 generalize x.mem.cell c.base=q at hC ⊢;obtain ⟨v,e⟩:=q;obtain ⟨sp,dk,rk,hpp,nmb,ip,self,root,li,slots,fuel,out,inp,over,ba,ca,handler,does⟩:=c;simp only at x14 hC
 clear hc hs h c0
 go_enter Tryz.func140,Tryz.ntmps140
 go_wp2_with fail;refine Go.Proofs.K.wp_region_calm ?calm1a ?calm1b ?_
 case calm1a=>kernel_rfl
 case calm1b=>kernel_rfl
 repeat ((with_reducible refine wpQuiet_step ?_);intro Kq hKq;go_simp;first | ((with_reducible refine hKq _ ?_);clear hKq Kq) | (refine hKq _ ?_;clear hKq Kq) | (apply Exists.intro;refine ⟨fun _=>?_,hKq _ ?_⟩;(first | exact K.calm_of (hC.out _));clear hKq Kq))
 with_reducible refine wpQuiet_nil ?_
 intro _ hw';obtain ⟨⟨wq,kq⟩,hw''⟩:=hw';subst hw'';go_wp2_with fail;go_ret
 exact ⟨rfl,kq⟩
theorem str_app (a b:List UInt8):Value.string ((⟨a.toArray⟩:ByteArray)++⟨b.toArray⟩)=.string ⟨(a++b).toArray⟩:=by
 congr 1
end Go.Proofs.Shed
namespace Go.Proofs.Shed
open Go Go.RowKit Go.Proofs.K Go.Proofs.Cod
structure RVm (X:Nat→Prop) (w:World) (mb s b bb db rb:Nat) (c:Mc) (x:Sp) (d r:Stk):Prop where
 mc:RMc w mb c
 csp:c.sp=some s
 cdk:c.dk=some db
 crk:c.rk=some rb
 sp:RSp w s b bb x
 dk:RStk w db b d
 rk:RStk w rb b r
 does:Does X w c.does
 nx:∀ g,X g→g≠mb∧g≠s∧g≠bb∧g≠db∧g≠rb
 ne:(mb≠s∧mb≠b∧mb≠bb∧mb≠db∧mb≠rb)∧(db≠s∧db≠b∧db≠bb∧db≠rb)∧(rb≠s∧rb≠b∧rb≠bb)∧(c.does≠mb∧c.does≠s∧c.does≠bb∧c.does≠db∧c.does≠rb)
theorem RVm.keeps {X S:Nat→Prop} {w w':World} {mb s b bb db rb:Nat} {c:Mc} {x:Sp} {d r:Stk} (h:RVm X w mb s b bb db rb c x d r) (k:Keeps S w w') (n:¬ S mb∧¬ S s∧¬ S b∧¬ S bb∧¬ S db∧¬ S rb∧¬ S c.does) (nX:∀ g,X g→¬ S g):RVm X w' mb s b bb db rb c x d r :=
 ⟨h.mc.keeps k n.1,h.csp,h.cdk,h.crk,h.sp.keeps k n.2.1 n.2.2.1 n.2.2.2.1,h.dk.keeps k n.2.2.2.2.1,h.rk.keeps k n.2.2.2.2.2.1,h.does.keeps k n.2.2.2.2.2.2 nX,h.nx,h.ne⟩
theorem RVm.keeps0 {X:Nat→Prop} {w w':World} {mb s b bb db rb:Nat} {c:Mc} {x:Sp} {d r:Stk} (h:RVm X w mb s b bb db rb c x d r) (k:Keeps (fun _=>False) w w'):RVm X w' mb s b bb db rb c x d r :=
 h.keeps k ⟨id,id,id,id,id,id,id⟩ (fun _ _=>id)
theorem RVm.withMc {X:Nat→Prop} {w w':World} {mb s b bb db rb:Nat} {c c':Mc} {x:Sp} {d r:Stk} (h:RVm X w mb s b bb db rb c x d r) (k:Keeps (fun g=>g=mb) w w') (hc:RMc w' mb c') (e:c'.sp=c.sp∧c'.dk=c.dk∧c'.rk=c.rk∧c'.does=c.does):RVm X w' mb s b bb db rb c' x d r:=by
 obtain ⟨⟨n1,n2,n3,n4,n5⟩,n6,n7,n8⟩:=h.ne
 exact ⟨hc,e.1.trans h.csp,e.2.1.trans h.cdk,e.2.2.1.trans h.crk,h.sp.keeps k (fun e=>n1 e.symm) (fun e=>n2 e.symm) (fun e=>n3 e.symm),h.dk.keeps k (fun e=>n4 e.symm),h.rk.keeps k (fun e=>n5 e.symm),by rw [e.2.2.2];exact h.does.keeps k n8.1 (fun g hg e=>(h.nx g hg).1 e),h.nx,
  ⟨⟨n1,n2,n3,n4,n5⟩,n6,n7,by rw [e.2.2.2];exact n8⟩⟩
theorem RVm.withD {X:Nat→Prop} {w w':World} {mb s b bb db rb:Nat} {c:Mc} {x:Sp} {d d' r:Stk} (h:RVm X w mb s b bb db rb c x d r) (k:Keeps (fun g=>g=db) w w') (hd:RStk w' db b d'):RVm X w' mb s b bb db rb c x d' r:=by
 obtain ⟨⟨n1,n2,n3,n4,n5⟩,⟨m1,m2,m3,m4⟩,n7,n8⟩:=h.ne;exact ⟨h.mc.keeps k (fun e=>n4 e),h.csp,h.cdk,h.crk,h.sp.keeps k (fun e=>m1 e.symm) (fun e=>m2 e.symm) (fun e=>m3 e.symm),hd,h.rk.keeps k (fun e=>m4 e.symm),h.does.keeps k n8.2.2.2.1 (fun g hg e=>(h.nx g hg).2.2.2.1 e),h.nx,⟨⟨n1,n2,n3,n4,n5⟩,⟨m1,m2,m3,m4⟩,n7,n8⟩⟩
theorem map_run {P:Program} {k:TypeId} {α:Type} [DecidableEq α] (kk:Key P k α) {w:World} {b n:Nat} {f:α→Option Value} (t e:TypeId) (ht:P.underlying t=some (.map k e)) (hown:MapIs kk w b n f) (hn:n<maxLen) (key:α) (hok:kk.ok key) (val:Value) :
 ∃ w',(Instr.mapUpdate t (.map (some b)) (kk.val key) val).run P w=.ok () w'∧MapIs kk w' b (n+1) (upd f key val)∧Keeps (fun g=>g=b) w w':=by
 obtain ⟨D,hown,hr⟩:=hown;have hD:=(hown.tidy kk.kd).isMap;obtain ⟨w',hrun,r1,r2⟩:=hown.update kk.kd ht hn (kk.reads key hok) (show RV val=some (.held val,[]) from rfl)
 exact ⟨w',hrun,⟨_,r1,hr.put hD key val⟩,Keeps.grown (S:=fun g=>g=b) r2 (fun j _ e=>(Option.some.inj e).symm)⟩
theorem allocs3 (w:World) (o0 o1 o2:Obj):∃ W,W=((w.alloc o0).alloc o1).alloc o2∧W.heap[w.heap.size]?=some o0∧W.heap[w.heap.size+1]?=some o1∧W.heap[w.heap.size+2]?=some o2∧W.heap.size=w.heap.size+3∧Keeps (fun _=>False) w W:=by
 refine ⟨_,rfl,?_,?_,?_,?_,?_⟩
 · exact (halloc_old _ _ (by first | (simp;done) | (simp;omega))).trans ((halloc_old _ _ (by first | (simp;done) | (simp;omega))).trans (halloc_at _ _))
 · exact (halloc_old _ _ (by first | (simp;done) | (simp;omega))).trans (halloc_2 _ _ _)
 · have:=halloc_at ((w.alloc o0).alloc o1) o2
   simpa using this
 · simp
 · exact ((Keeps.alloc _ _ _).trans (Keeps.alloc _ _ _)).trans (Keeps.alloc _ _ _)
def NmNew (w:World) (nb im:Nat) (n:Int):Prop:=w.heap[nb]?=some (.cells #[.map (some im),.slice none 0 0,.int .i64 n] 293 (0,0))∧w.heap[im]?=some (.map #[] 0)
theorem NmNew.keeps {w w':World} {nb im:Nat} {n:Int} (h:NmNew w nb im n) {S:Nat→Prop} (k:Keeps S w w') (h1:¬ S nb) (h2:¬ S im):NmNew w' nb im n:=⟨k.heap h.1 h1,k.heap h.2 h2⟩
theorem intern_new (w:World) (n:Int):Calls Tryz.prog 119 #[.int .i64 n] w fun e w'=>∃ nb im,e=.returned (.pointer (some ⟨nb,0,none⟩))∧(w.heap.size≤nb∧w.heap.size≤im∧nb<w'.heap.size∧im<w'.heap.size)∧NmNew w' nb im n∧Keeps (fun _=>False) w w':=by
 have hmm:=@run_makeMap Tryz.prog
 go_enter Tryz.func119,Tryz.ntmps119
 go_wp2_with fail;go_ret
 refine ⟨w.heap.size+1,w.heap.size,rfl,?_,?_,(Keeps.alloc _ _ _).trans (Keeps.alloc _ _ _)⟩
 · simp only [World.size_alloc];omega
 · exact ⟨halloc_2 _ _ _,(halloc_old _ _ (by simp)).trans (halloc_at _ _)⟩
theorem ne_type2 {w:World} {a b:Nat} {ca cb:Array Value} {ta tb:TypeId} {fa fb:Nat × Nat} (h1:w.heap[a]?=some (.cells ca ta fa)) (h2:w.heap[b]?=some (.cells cb tb fb)) (hne:(ta == tb)=false):a≠b:=by
 rintro rfl;rw [h1] at h2;injection h2 with h2
 injection h2 with _ h2 _
 subst h2;simp at hne
def NmAt (w w':World) (nb im lo mb pb b bb:Nat):Prop:=NmNew w' nb im 1024∧(w.heap.size≤nb∧w.heap.size≤im)∧(nb<lo∧im<lo)∧(nb≠mb∧im≠mb)∧(nb≠pb∧im≠pb)∧(nb≠b∧im≠b)∧(nb≠bb∧im≠bb)
theorem al3 (w:World) (o0 o1 o2:Obj):(((w.alloc o0).alloc o1).alloc o2).heap[w.heap.size]?=some o0∧(((w.alloc o0).alloc o1).alloc o2).heap[w.heap.size+1]?=some o1∧(((w.alloc o0).alloc o1).alloc o2).heap[w.heap.size+1+1]?=some o2∧Keeps (fun _=>False) w (((w.alloc o0).alloc o1).alloc o2):=by
 obtain ⟨W,rfl,h0,h1,h2,_,hk⟩:=allocs3 w o0 o1 o2;exact ⟨h0,h1,h2,hk⟩
theorem al2 (w:World) (o0 o1:Obj):((w.alloc o0).alloc o1).heap[w.heap.size]?=some o0∧((w.alloc o0).alloc o1).heap[w.heap.size+1]?=some o1∧Keeps (fun _=>False) w ((w.alloc o0).alloc o1) :=
 ⟨(halloc_old _ _ (by simp)).trans (halloc_at _ _),halloc_2 _ _ _,(Keeps.alloc _ _ _).trans (Keeps.alloc _ _ _)⟩
theorem setSize (w:World) (p:Addr) (v:Value):(w.setCell p v).heap.size=w.heap.size:=by simp
theorem al1s (w:World) (p:Addr) (v:Value) (o:Obj):((w.setCell p v).alloc o).heap[w.heap.size]?=some o:=by
 have:=halloc_at (w.setCell p v) o
 rwa [setSize] at this
theorem al2s (w:World) (p:Addr) (v:Value) (o0 o1:Obj):(((w.setCell p v).alloc o0).alloc o1).heap[w.heap.size]?=some o0∧(((w.setCell p v).alloc o0).alloc o1).heap[w.heap.size+1]?=some o1:=by
 have h:=al2 (w.setCell p v) o0 o1;rw [setSize] at h;exact ⟨h.1,h.2.1⟩
theorem MapIs.empty {P:Program} {k:TypeId} {α:Type} (kk:Key P k α) {w:World} {b:Nat} (h:w.heap[b]?=some (.map #[] 0)):MapIs kk w b 0 (fun _=>none) :=
 ⟨.map [],⟨#[],0,h,⟨by simp,Go.MapKept.stamped_empty 0,by simp⟩,Nat.le_refl _,rfl⟩,fun _ _=>rfl,fun _ _ _ h=>by cases h⟩
def mach0 (nb:Nat) (slots:Int) (inp:List UInt8) (pb:Nat):Mc:=⟨none,none,none,none,nb,0,0,0,0,slots,0,[],inp,false,0,0,0,pb⟩
def Fin9 (W3:World) (slots:Int) (inp:List UInt8) (v:Value) (wx:World):Prop :=
 ∃ mb nb im pb x11:Nat,v=.pointer (some ⟨x11,0,none⟩)∧wx.heap[x11]?=some (.cells #[.pointer (some ⟨mb,0,none⟩)] 35 (0,0))∧RMc wx mb (mach0 nb slots inp pb)∧MapIs ik wx pb 0 (fun _=>none)∧W3.heap.size≤x11∧W3.heap.size≤mb∧W3.heap.size≤pb∧mb≠x11∧(NmNew wx nb im 1024∧W3.heap.size≤nb∧W3.heap.size≤im∧im≠pb)∧Keeps (fun _=>False) W3 wx
theorem fin9 (W3 wx:World) (slots:Int) (inp:List UInt8) (x11 mb nb im pb:Nat) (h1:wx.heap[x11]?=some (.cells #[.pointer (some ⟨mb,0,none⟩)] 35 (0,0))) (h2:wx.heap[mb]?=some (.cells (mach0 nb slots inp pb).cells 47 (0,0))) (h3:wx.heap[pb]?=some (.map #[] 0))
 (l1:W3.heap.size≤x11) (l2:W3.heap.size≤mb) (l3:W3.heap.size≤pb) (n:mb≠x11) (hn:NmNew wx nb im 1024) (n1:W3.heap.size≤nb) (n2:W3.heap.size≤im) (n3:im≠pb) (k:Keeps (fun _=>False) W3 wx):Fin9 W3 slots inp (.pointer (some ⟨x11,0,none⟩)) wx:=⟨mb,nb,im,pb,x11,rfl,h1,h2,MapIs.empty ik h3,l1,l2,l3,n,⟨hn,n1,n2,n3⟩,k⟩
structure NBx (x2 x6 x7 x8 x9 x11 mb b:Nat) (dict data ret hz slots:Int) (W:World):Prop where
 r2:RCf W x2 dict data ret hz slots
 r6:W.heap[x6]?=some (.cells #[.int .i64 dict] 2 (0,0))
 r7:W.heap[x7]?=some (.cells #[.int .i64 (dict+data*8)] 2 (0,0))
 r8:W.heap[x8]?=some (.cells #[.int .i64 (dict+data*8+ret*8)] 2 (0,0))
 r9:W.heap[x9]?=some (.cells #[.pointer (some ⟨b,0,none⟩)] 82 (0,0))
 r11:W.heap[x11]?=some (.cells #[.pointer (some ⟨mb,0,none⟩)] 35 (0,0))
theorem NBx.keeps {x2 x6 x7 x8 x9 x11 mb b:Nat} {dict data ret hz slots:Int} {W W':World} (h:NBx x2 x6 x7 x8 x9 x11 mb b dict data ret hz slots W) {S:Nat→Prop} (k:Keeps S W W') (n:∀ k,k=x2∨k=x6∨k=x7∨k=x8∨k=x9∨k=x11→¬ S k):NBx x2 x6 x7 x8 x9 x11 mb b dict data ret hz slots W' :=
 ⟨k.heap h.r2 (n _ (by simp)),k.heap h.r6 (n _ (by simp)),k.heap h.r7 (n _ (by simp)),k.heap h.r8 (n _ (by simp)),k.heap h.r9 (n _ (by simp)),k.heap h.r11 (n _ (by simp))⟩
theorem num_ok (s:List UInt8):ik.ok (num s):=by
 have h:=idx_bd s names 86 names_len
 show (Lit.int .i64 (num s)).wf=true
 unfold num;have h1:0≤idx s names+1:=by omega
 have h2:idx s names+1≤86:=by omega
 generalize idx s names+1=n at h1 h2;simp [Lit.wf,IntKind.min,IntKind.max,IntKind.bits,IntKind.signed]
 omega
structure NewOk (dict data ret hz:Int) (m1:Mem) (x1 y:Sp) (root base list caught:Int):Prop where
 d8:8≤dict
 dm:dict % 8=0
 t0:0≤data
 r0:0≤ret
 h16:16≤hz
 hm:hz % 8=0
 top:dict+data*8+ret*8+hz≤1048576
 put:Heap.put (Mem.zero (dict+data*8+ret*8+hz).toNat) ⟨dict+data*8+ret*8,hz,false⟩=(m1,0)
 rt:Class.root ⟨m1,8,dict,8⟩=(x1,root,0)
 pr:Vm.prims x1=some (y,base,list,caught)
def VmPost (dict data ret slots hz:Int) (inp:List UInt8) (y:Sp) (root base list caught:Int) (w:World) (e:Ending) (w':World):Prop :=
 ∃ mb nb pb s b bb db rb hb lo hi:Nat,e=.returned (.tuple #[.pointer (some ⟨mb,0,none⟩),.int .i64 0])∧RMc w' mb ⟨some s,some db,some rb,some hb,nb,0,0,root,list,slots,0,[],inp,false,base,caught,0,pb⟩∧RSp w' s b bb y ∧
  RStk w' db b ⟨dict,data,0,-3,-4⟩∧RStk w' rb b ⟨dict+data*8,ret,0,-5,-6⟩∧w'.heap[hb]?=some (.cells #[.pointer (some ⟨b,0,none⟩),.int .i64 (dict+data*8+ret*8),.int .i64 (dict+data*8+ret*8+hz)] 298 (0,0))∧Does (fun g=>lo≤g∧g<hi) w' pb ∧
  (w.heap.size≤mb∧w.heap.size≤pb∧w.heap.size≤b∧w.heap.size≤bb)∧(mb<lo∧pb<lo∧b<lo∧bb<lo)∧lo≤hi∧hi≤hb∧hb<db∧db<rb∧rb<s∧mb≠pb∧mb≠b∧mb≠bb∧b≠bb∧Keeps (fun _=>False) w w'∧∃ im,NmAt w w' nb im lo mb pb b bb
def newV (x2 x6 x7 x8 x9 x11 mb:Nat):Array Value:=#[.func (.func 122) #[] #[Pt x9,Pt x8,Pt x2,Pt x11],.func (.func 124) #[] #[Pt x9,Pt x6,Pt x2,Pt x11],.func (.func 126) #[] #[Pt x9,Pt x7,Pt x2,Pt x11],
 .func (.func 127) #[] #[Pt x9,Pt x2,Pt x11],.func (.func 129) #[] #[Pt x11],.func (.func 131) #[Pt mb] #[]]
theorem vm_new (w:World) (dict data ret hz slots:Int) (inp:List UInt8) (m1:Mem) (x1 y:Sp) (root base list caught:Int) (ok:NewOk dict data ret hz m1 x1 y root base list caught) :
 Calls Tryz.prog 71 #[.agg #[.int .i64 dict,.int .i64 data,.int .i64 ret,.int .i64 hz,.int .i64 slots],.string ⟨inp.toArray⟩] w (VmPost dict data ret slots hz inp y root base list caught w):=by
 obtain ⟨d8,dm,t0,r0,h16,hm,top,put,rt,pr⟩:=ok;have e1:decide (dict<0)=false:=decide_eq_false (by omega)
 have e2:decide (data<0)=false:=decide_eq_false (by omega)
 have e3:decide (ret<0)=false:=decide_eq_false (by omega)
 have e4:decide (hz<0)=false:=decide_eq_false (by omega)
 have e5:dict.tmod 8=0:=by rw [Int.tmod_eq_emod_of_nonneg (by omega)];exact dm
 have e6:hz.tmod 8=0:=by rw [Int.tmod_eq_emod_of_nonneg (by omega)];exact hm
 have e7:(dict % 8 != 0)=false:=by simp [dm]
 have e8:(hz % 8 != 0)=false:=by simp [hm]
 have c0:=h_ (halloc_at w (.cells #[.int .i64 dict,.int .i64 data,.int .i64 ret,.int .i64 hz,.int .i64 slots] 119));have K0:=h_ (ka_ w (.cells #[.int .i64 dict,.int .i64 data,.int .i64 ret,.int .i64 hz,.int .i64 slots] 119));have hs0:(w.alloc (.cells #[.int .i64 dict,.int .i64 data,.int .i64 ret,.int .i64 hz,.int .i64 slots] 119)).heap.size=w.heap.size+1:=by simp
 generalize hW:w.alloc (.cells #[.int .i64 dict,.int .i64 data,.int .i64 ret,.int .i64 hz,.int .i64 slots] 119)=W at c0 K0 hs0;have HW:=h_ hW;have a0:W.cell? ⟨w.heap.size,0,none⟩=some (.int .i64 dict):=cell_of c0.out rfl;have a1:W.cell? ⟨w.heap.size,1,none⟩=some (.int .i64 data):=cell_of c0.out rfl;have a2:W.cell? ⟨w.heap.size,2,none⟩=some (.int .i64 ret):=cell_of c0.out rfl;have a3:W.cell? ⟨w.heap.size,3,none⟩=some (.int .i64 hz):=cell_of c0.out rfl;have a4:W.cell? ⟨w.heap.size,4,none⟩=some (.int .i64 slots):=cell_of c0.out rfl
 obtain ⟨mx,hmx,hmr⟩:∃ mx:Int,mx≤1048576∧∀ V,(Builtin.max_ #[2,2,2,2] 2 #[.int .i64 dict,.int .i64 hz,.int .i64 data,.int .i64 ret]).run Tryz.prog V=.ok (.int .i64 mx) V:=by
  refine ⟨if ret > (if data > (if hz > dict then hz else dict) then data else (if hz > dict then hz else dict)) then ret else (if data > (if hz > dict then hz else dict) then data else (if hz > dict then hz else dict)),?_,fun V=>rfl⟩
  repeat' split
  all_goals omega
 have hmd:decide (1048576<mx)=false:=decide_eq_false (by omega)
 clear hmx;clear hW
 go_enter Tryz.func71,Tryz.ntmps71
 go_upto_region 1 with fail;rw [HW.out];clear HW;go_wp2_with fail;obtain ⟨W1,hW1,x6,x7,x8,hs1,k1⟩:=allocs3 W (.cells #[.int .i64 dict] 2) (.cells #[.int .i64 (dict+data*8)] 2) (.cells #[.int .i64 (dict+data*8+ret*8)] 2);rw [← hW1];clear hW1
 have hn:NewPost (dict+data*8+ret*8+hz) W1=fun e w'=>∃ b bb,e=.returned (.tuple #[.pointer (some ⟨b,0,none⟩),.int .i64 0])∧RMem w' b bb (Mem.zero (dict+data*8+ret*8+hz).toNat)∧W1.heap.size≤b∧W1.heap.size≤bb∧Keeps (fun _=>False) W1 w':=by
  funext e w'
  unfold NewPost Mem.newCode;rw [if_pos (by rw [if_pos (by omega)])]
 have HN:=mem_new W1 (dict+data*8+ret*8+hz);rw [hn] at HN;refine HN.mono ?_;rintro e W2 ⟨b,bb,rfl,hm2,hb1,hb2,k2⟩;clear HN hn a0 a1 a2 a3 a4 e1 e2 e3 e4 e5 e6 e7 e8 hmr hmd;have kk:=k1.trans k2;have X2:=h_ (kk.heap c0.out id);have X6:=h_ (k2.heap x6 id);have X7:=h_ (k2.heap x7 id);have X8:=h_ (k2.heap x8 id);have M2:=h_ hm2;have K2:=h_ (K0.out.trans kk);have hs2:=k2.size;have hbl:=hm2.lt;clear x6 x7 x8 hm2 k1 k2 kk c0 K0;go_wp2_with fail;obtain ⟨x9,hx9⟩:∃ x9,x9=W2.heap.size:=⟨_,rfl⟩;have X9:=h_ (halloc_at W2 (.cells #[.pointer (some ⟨b,0,none⟩)] 82));rw [← hx9] at X9;have KA:=h_ (ka_ W2 (.cells #[.pointer (some ⟨b,0,none⟩)] 82));have hs3:(W2.alloc (.cells #[.pointer (some ⟨b,0,none⟩)] 82)).heap.size=W2.heap.size+1:=by simp
 rw [← hx9];rw [← hx9] at hs3;have HX9:=h_ hx9;clear hx9;generalize W2.alloc (.cells #[.pointer (some ⟨b,0,none⟩)] 82)=W3 at X9 KA hs3 ⊢;replace X2:=h_ (KA.out.heap X2.out id);replace X6:=h_ (KA.out.heap X6.out id);replace X7:=h_ (KA.out.heap X7.out id);replace X8:=h_ (KA.out.heap X8.out id);replace M2:=h_ (M2.out.keeps KA.out id id);replace K2:=h_ (K2.out.trans KA.out);clear KA;have hmm:=@run_makeMap Tryz.prog;have a4:W3.cell? ⟨w.heap.size,4,none⟩=some (.int .i64 slots):=cell_of X2.out rfl;have hx2s:w.heap.size<W3.heap.size:=lt_of_heap X2.out;have HIN:=h_ fun V=>intern_new V 1024
 have HS3:=h_ hs3;clear hs3
 go_cut [11] (fun v11 wx=>Fin9 W3 slots inp v11 wx)
 case first =>
  go_region_held3 (fun w'=>w'.cell? ⟨w.heap.size,4,none⟩=some (.int .i64 slots))
   (first | go_keep | (repeat (first | exact p4 | refine (ka_ _ _).cell ?_ id | refine (Keeps.setCell (S:=fun k=>k=W3.heap.size) _ ⟨W3.heap.size,0,none⟩ _ (fun _=>rfl)).cell ?_ (by show ¬ w.heap.size=W3.heap.size;omega) | refine (Keeps.setCell (S:=fun k=>k=W3.heap.size+1) _ ⟨W3.heap.size+1,0,none⟩ _ (fun _=>rfl)).cell ?_ (by show ¬ w.heap.size=W3.heap.size+1;omega))))
   (first
     | (go_at_call 119;refine (HIN.out ((W3.alloc (.cells #[.pointer none] 35)).alloc (.map #[] 0)).drew).mono ?_;rintro e w4 ⟨nb,im,rfl,lll,hnm,k4⟩;dsimp only
        simp only [show ∀ v:World,v.drew.heap=v.heap from fun _=>rfl,World.size_alloc] at lll
        obtain ⟨l4,l6,l5,l7⟩:=lll;have ks:Keeps (fun _=>False) W3 w4:=((ka_ W3 (.cells #[.pointer none] 35)).trans (ka_ _ (.map #[] 0))).trans ((kd_ _).trans k4)
        have p4:w4.cell? ⟨w.heap.size,4,none⟩=some (.int .i64 slots):=ks.cell a4 id;have s4:=ks.size;have g1:w4.heap.size<w4.heap.size+1:=Nat.lt_succ_self _;have g2:w4.heap.size<w4.heap.size+1+1:=Nat.lt_succ_of_lt g1;have g3:w4.heap.size≤w4.heap.size+1:=Nat.le_succ _;have g4:¬ w4.heap.size=w4.heap.size+1:=by omega
        have g5:¬ w4.heap.size=w4.heap.size+1+1:=by omega
        have nw:w.heap.size≠w4.heap.size:=by omega
        have nw':w4.heap.size≠w.heap.size:=by omega
        have hz:=k4.heap (show (((W3.alloc (.cells #[.pointer none] 35)).alloc (.map #[] 0)).drew).heap[W3.heap.size]?=some (.cells #[.pointer none] 35 (0,0)) from (halloc_old _ _ (by simp)).trans (halloc_at W3 _)) id
        have hp:=k4.heap (show (((W3.alloc (.cells #[.pointer none] 35)).alloc (.map #[] 0)).drew).heap[W3.heap.size+1]?=some (.map #[] 0) from halloc_2 _ _ _) id
        have z0:w4.cell? ⟨W3.heap.size,0,none⟩=some (.pointer none):=cell_of hz rfl;have q0:w4.frozen? ⟨W3.heap.size,0,none⟩=false:=free_of hz;have nz:w.heap.size≠W3.heap.size:=by omega
        have nz':W3.heap.size≠w.heap.size:=by omega
        have lz:=lt_of_heap hz;have lz1:=Nat.lt_succ_of_lt lz;have lz2:=Nat.ne_of_lt lz;have lz3:=Nat.ne_of_lt lz1;have lz4:=lz2.symm
        have lz5:=lz3.symm)
     | (go_at_call 119;refine (HIN.out ((W3.alloc (.map #[] 0)).alloc (.cells #[.pointer none] 35)).drew).mono ?_;rintro e w4 ⟨nb,im,rfl,lll,hnm,k4⟩;dsimp only
        simp only [show ∀ v:World,v.drew.heap=v.heap from fun _=>rfl,World.size_alloc] at lll
        obtain ⟨l4,l6,l5,l7⟩:=lll;have ks:Keeps (fun _=>False) W3 w4:=((ka_ W3 (.map #[] 0)).trans (ka_ _ (.cells #[.pointer none] 35))).trans ((kd_ _).trans k4)
        have p4:w4.cell? ⟨w.heap.size,4,none⟩=some (.int .i64 slots):=ks.cell a4 id;have s4:=ks.size;have g1:w4.heap.size<w4.heap.size+1:=Nat.lt_succ_self _;have g2:w4.heap.size<w4.heap.size+1+1:=Nat.lt_succ_of_lt g1;have g3:w4.heap.size≤w4.heap.size+1:=Nat.le_succ _;have g4:¬ w4.heap.size=w4.heap.size+1:=by omega
        have g5:¬ w4.heap.size=w4.heap.size+1+1:=by omega
        have nw:w.heap.size≠w4.heap.size:=by omega
        have nw':w4.heap.size≠w.heap.size:=by omega
        have hz:=k4.heap (show (((W3.alloc (.map #[] 0)).alloc (.cells #[.pointer none] 35)).drew).heap[W3.heap.size+1]?=some (.cells #[.pointer none] 35 (0,0)) from halloc_2 _ _ _) id
        have hp:=k4.heap (show (((W3.alloc (.map #[] 0)).alloc (.cells #[.pointer none] 35)).drew).heap[W3.heap.size]?=some (.map #[] 0) from (halloc_old _ _ (by simp)).trans (halloc_at W3 _)) id
        have z0:w4.cell? ⟨(W3.heap.size+1),0,none⟩=some (.pointer none):=cell_of hz rfl;have q0:w4.frozen? ⟨(W3.heap.size+1),0,none⟩=false:=free_of hz;have nz:w.heap.size≠(W3.heap.size+1):=by omega
        have nz':(W3.heap.size+1)≠w.heap.size:=by omega
        have lz:=lt_of_heap hz;have lz1:=Nat.lt_succ_of_lt lz;have lz2:=Nat.ne_of_lt lz;have lz3:=Nat.ne_of_lt lz1;have lz4:=lz2.symm
        have lz5:=lz3.symm)
     | (go_at_call 119;refine (HIN.out (W3.alloc (.cells #[.pointer none] 35)).drew).mono ?_;rintro e w4 ⟨nb,im,rfl,lll,hnm,k4⟩;dsimp only
        simp only [show ∀ v:World,v.drew.heap=v.heap from fun _=>rfl,World.size_alloc] at lll
        obtain ⟨l4,l6,l5,l7⟩:=lll;have ks:Keeps (fun _=>False) W3 w4:=((ka_ W3 (.cells #[.pointer none] 35))).trans ((kd_ _).trans k4)
        have p4:w4.cell? ⟨w.heap.size,4,none⟩=some (.int .i64 slots):=ks.cell a4 id;have s4:=ks.size;have g1:w4.heap.size<w4.heap.size+1:=Nat.lt_succ_self _;have g2:w4.heap.size<w4.heap.size+1+1:=Nat.lt_succ_of_lt g1;have g3:w4.heap.size≤w4.heap.size+1:=Nat.le_succ _;have g4:¬ w4.heap.size=w4.heap.size+1:=by omega
        have g5:¬ w4.heap.size=w4.heap.size+1+1:=by omega
        have nw:w.heap.size≠w4.heap.size:=by omega
        have nw':w4.heap.size≠w.heap.size:=by omega
        have hz:=k4.heap (show ((W3.alloc (.cells #[.pointer none] 35)).drew).heap[W3.heap.size]?=some (.cells #[.pointer none] 35 (0,0)) from halloc_at W3 _) id
        have z0:w4.cell? ⟨W3.heap.size,0,none⟩=some (.pointer none):=cell_of hz rfl;have q0:w4.frozen? ⟨W3.heap.size,0,none⟩=false:=free_of hz;have nz:w.heap.size≠W3.heap.size:=by omega
        have nz':W3.heap.size≠w.heap.size:=by omega
        have lz:=lt_of_heap hz;have lz1:=Nat.lt_succ_of_lt lz;have lz2:=Nat.ne_of_lt lz;have lz3:=Nat.ne_of_lt lz1;have lz4:=lz2.symm
        have lz5:=lz3.symm)
     | (go_at_call 119;refine (HIN.out (W3.alloc (.map #[] 0)).drew).mono ?_;rintro e w4 ⟨nb,im,rfl,lll,hnm,k4⟩;dsimp only
        simp only [show ∀ v:World,v.drew.heap=v.heap from fun _=>rfl,World.size_alloc] at lll
        obtain ⟨l4,l6,l5,l7⟩:=lll;have ks:Keeps (fun _=>False) W3 w4:=((ka_ W3 (.map #[] 0))).trans ((kd_ _).trans k4)
        have p4:w4.cell? ⟨w.heap.size,4,none⟩=some (.int .i64 slots):=ks.cell a4 id;have s4:=ks.size;have g1:w4.heap.size<w4.heap.size+1:=Nat.lt_succ_self _;have g2:w4.heap.size<w4.heap.size+1+1:=Nat.lt_succ_of_lt g1;have g3:w4.heap.size≤w4.heap.size+1:=Nat.le_succ _;have g4:¬ w4.heap.size=w4.heap.size+1:=by omega
        have g5:¬ w4.heap.size=w4.heap.size+1+1:=by omega
        have nw:w.heap.size≠w4.heap.size:=by omega
        have nw':w4.heap.size≠w.heap.size:=by omega
        have hp:=k4.heap (show ((W3.alloc (.map #[] 0)).drew).heap[W3.heap.size]?=some (.map #[] 0) from halloc_at W3 _) id)
     | (go_at_call 119;refine (HIN.out (W3).drew).mono ?_;rintro e w4 ⟨nb,im,rfl,lll,hnm,k4⟩;dsimp only
        simp only [show ∀ v:World,v.drew.heap=v.heap from fun _=>rfl,World.size_alloc] at lll
        obtain ⟨l4,l6,l5,l7⟩:=lll;have ks:Keeps (fun _=>False) W3 w4:=((Keeps.refl (fun _=>False) W3)).trans ((kd_ _).trans k4)
        have p4:w4.cell? ⟨w.heap.size,4,none⟩=some (.int .i64 slots):=ks.cell a4 id;have s4:=ks.size;have g1:w4.heap.size<w4.heap.size+1:=Nat.lt_succ_self _;have g2:w4.heap.size<w4.heap.size+1+1:=Nat.lt_succ_of_lt g1;have g3:w4.heap.size≤w4.heap.size+1:=Nat.le_succ _;have g4:¬ w4.heap.size=w4.heap.size+1:=by omega
        have g5:¬ w4.heap.size=w4.heap.size+1+1:=by omega
        have nw:w.heap.size≠w4.heap.size:=by omega
        have nw':w4.heap.size≠w.heap.size:=by omega
        have dummy:=s4))
  all_goals
   go_wp2_with fail
   go_meet
   first
    | exact fin9 W3 _ slots inp (w4.heap.size+1+1) (w4.heap.size+1) nb im w4.heap.size (al3 w4 _ _ _).2.2.1 (al3 w4 _ _ _).2.1 (al3 w4 _ _ _).1 (by omega) (by omega) (by omega) (by omega) (hnm.keeps (al3 w4 _ _ _).2.2.2 id id) (by omega) (by omega) (by omega) (ks.trans (al3 w4 _ _ _).2.2.2)
    | exact fin9 W3 _ slots inp (w4.heap.size+1) (w4.heap.size+1+1) nb im w4.heap.size (al3 w4 _ _ _).2.1 (al3 w4 _ _ _).2.2.1 (al3 w4 _ _ _).1 (by omega) (by omega) (by omega) (by omega) (hnm.keeps (al3 w4 _ _ _).2.2.2 id id) (by omega) (by omega) (by omega) (ks.trans (al3 w4 _ _ _).2.2.2)
    | exact fin9 W3 _ slots inp w4.heap.size (w4.heap.size+1+1) nb im (w4.heap.size+1) (al3 w4 _ _ _).1 (al3 w4 _ _ _).2.2.1 (al3 w4 _ _ _).2.1 (by omega) (by omega) (by omega) (by omega) (hnm.keeps (al3 w4 _ _ _).2.2.2 id id) (by omega) (by omega) (by omega) (ks.trans (al3 w4 _ _ _).2.2.2)
    | exact fin9 W3 _ slots inp (w4.heap.size+1) w4.heap.size nb im W3.heap.size (al2 w4 _ _).2.1 (al2 w4 _ _).1 ((al2 w4 _ _).2.2.heap hp id) (by omega) (by omega) (by omega) (by omega) (hnm.keeps (al2 w4 _ _).2.2 id id) (by omega) (by omega) (by omega) (ks.trans (al2 w4 _ _).2.2)
    | exact fin9 W3 _ slots inp w4.heap.size (w4.heap.size+1) nb im W3.heap.size (al2 w4 _ _).1 (al2 w4 _ _).2.1 ((al2 w4 _ _).2.2.heap hp id) (by omega) (by omega) (by omega) (by omega) (hnm.keeps (al2 w4 _ _).2.2 id id) (by omega) (by omega) (by omega) (ks.trans (al2 w4 _ _).2.2)
    | (have hset:=hset_same (i:=0) hz (.pointer (some ⟨w4.heap.size,0,none⟩))
       have kset:Keeps (fun k=>k=W3.heap.size+1) w4 (w4.setCell ⟨W3.heap.size+1,0,none⟩ (.pointer (some ⟨w4.heap.size,0,none⟩))):=Keeps.setCell _ _ _ (fun _=>rfl)
       have ka:=ka_ (w4.setCell ⟨W3.heap.size+1,0,none⟩ (.pointer (some ⟨w4.heap.size,0,none⟩))) (.cells (mach0 nb slots inp W3.heap.size).cells 47)
       exact fin9 W3 _ slots inp (W3.heap.size+1) w4.heap.size nb im W3.heap.size (ka.heap hset id) (al1s w4 _ _ _) (ka.heap (kset.heap hp (fun e=>by have e:W3.heap.size=W3.heap.size+1:=e;omega)) id) (by omega) (by omega) (by omega) (by omega) ((hnm.keeps kset (fun e=>by have e:nb=W3.heap.size+1:=e;omega) (fun e=>by have e:im=W3.heap.size+1:=e;omega)).keeps ka id id) (by omega) (by omega) (by omega) ((ks.setNew ⟨W3.heap.size+1,0,none⟩ _ (by show W3.heap.size≤W3.heap.size+1;omega)).trans ka))
    | (have hset:=hset_same (i:=0) hz (.pointer (some ⟨w4.heap.size+1,0,none⟩))
       have ka:=(ka_ (w4.setCell ⟨W3.heap.size,0,none⟩ (.pointer (some ⟨w4.heap.size+1,0,none⟩))) (.map #[] 0)).trans (ka_ _ (.cells (mach0 nb slots inp w4.heap.size).cells 47));have kset:Keeps (fun k=>k=W3.heap.size) w4 (w4.setCell ⟨W3.heap.size,0,none⟩ (.pointer (some ⟨w4.heap.size+1,0,none⟩))):=Keeps.setCell _ _ _ (fun _=>rfl)
       exact fin9 W3 _ slots inp W3.heap.size (w4.heap.size+1) nb im w4.heap.size (ka.heap hset id) (al2s w4 _ _ _ _).2 (al2s w4 _ _ _ _).1 (by omega) (by omega) (by omega) (by omega) ((hnm.keeps kset (fun e=>by have e:nb=W3.heap.size:=e;omega) (fun e=>by have e:im=W3.heap.size:=e;omega)).keeps ka id id) (by omega) (by omega) (by omega) ((ks.setNew ⟨W3.heap.size,0,none⟩ _ (Nat.le_refl _)).trans ka))
    | (have hset:=hset_same (i:=0) hz (.pointer (some ⟨w4.heap.size,0,none⟩))
       have kset:Keeps (fun k=>k=W3.heap.size) w4 (w4.setCell ⟨W3.heap.size,0,none⟩ (.pointer (some ⟨w4.heap.size,0,none⟩))):=Keeps.setCell _ _ _ (fun _=>rfl)
       have ka:=ka_ (w4.setCell ⟨W3.heap.size,0,none⟩ (.pointer (some ⟨w4.heap.size,0,none⟩))) (.cells (mach0 nb slots inp (W3.heap.size+1)).cells 47)
       exact fin9 W3 _ slots inp W3.heap.size w4.heap.size nb im (W3.heap.size+1) (ka.heap hset id) (al1s w4 _ _ _) (ka.heap (kset.heap hp (fun e=>by have e:W3.heap.size+1=W3.heap.size:=e;omega)) id) (by omega) (by omega) (by omega) (by omega) ((hnm.keeps kset (fun e=>by have e:nb=W3.heap.size:=e;omega) (fun e=>by have e:im=W3.heap.size:=e;omega)).keeps ka id id) (by omega) (by omega) (by omega) ((ks.setNew ⟨W3.heap.size,0,none⟩ _ (Nat.le_refl _)).trans ka))
 case rest =>
  obtain ⟨mb,nb,im,pb,x11,rfl,h11,hmc,hpb,l1,l2,l3,l4,⟨hnm,ln1,ln2,ln3⟩,kc⟩:=hcut
  have HN1:=h_ (show (nb≠pb∧im≠pb)∧(nb≠mb∧im≠mb)∧(nb≠b∧im≠b)∧(nb≠bb∧im≠bb)∧(nb<wc.heap.size∧im<wc.heap.size)∧w.heap.size≤nb∧w.heap.size≤im from by
   have q1:nb≠pb:=fun e=>MapIs.noRow hpb _ _ _ (by rw [← e];exact hnm.1)
   have q2:nb≠mb:=ne_type2 hnm.1 hmc rfl;have q3:im≠mb:=fun e=>by have h1:=hnm.2;rw [e] at h1;exact nomatch (hmc.symm.trans h1)
   have q4:=lt_of_heap hnm.1;have q5:=lt_of_heap hnm.2;have h2:=HS3.out;have h3:=HX9.out
   omega)
  have HNM:=h_ hnm;clear hnm ln1 ln2 ln3;have HB:=h_ (show NBx w.heap.size (w.heap.size+1) (w.heap.size+1+1) (w.heap.size+1+1+1) x9 x11 mb b dict data ret hz slots wc by rw [← hs0];exact ⟨kc.heap X2.out id,kc.heap X6.out id,kc.heap X7.out id,kc.heap X8.out id,kc.heap X9.out id,h11⟩)
  have HMC:=h_ hmc;have HPB:=h_ hpb;have HM:=h_ (M2.out.keeps kc id id);have HK:=h_ (K2.out.trans kc);have hlo:=lt_of_heap h11;have hmp:mb≠pb:=fun e=>MapIs.noRow hpb _ _ _ (e ▸ hmc)
  have hxp:x11≠pb:=fun e=>MapIs.noRow hpb _ _ _ (e ▸ h11)
  have hmlo:=lt_of_heap hmc;have hplo:=hpb.lt;have HL:=h_ (And.intro (And.intro l1 l2) (And.intro l3 l4));clear h11 hmc hpb kc X2 X6 X7 X8 X9 M2 K2 a4 hx2s HIN l1 l2 l3 l4;go_wp2_with fail;refine (vm_primitives wc).mono ?_;rintro e w4 ⟨bS,rfl,fS,hmS,hgS,hbS,kS⟩;have h4:=kS.size;have HG:=h_ hgS;have HMS:=h_ hmS;have HSlt:=hmS.lt;have HKS:=h_ kS;clear hgS hmS kS
  go_wp2_with (first
   | (at_range;refine wpList_range sk _ rfl _ 235 rfl _ Tryz.underlying235 bS 500 fS rfl HMS.out ?_;intro w5 cnt0 hrg0 hk0)
   | go_in)
  go_frame
  have HR0:=h_ hrg0;have HK0:=h_ hk0;clear hrg0 hk0
  go_loopw [91] (fun _ wr=>∃ (left:List UInt8→Bool) (cnt m:Nat) (g:Int→Option Value),MapRun sk wr bS w4.heap.size 500 fS left cnt∧m+cnt≤500∧MapIs ik wr pb m g∧(∀ s,(fS s).isSome=true→left s=false→g (num s)=fS s)∧(∀ k,(∀ s,(fS s).isSome=true→num s≠k)→g k=none)∧Keeps (fun k=>k=pb∨k=w4.heap.size) w5 wr) (fun _ wr=>wr.rangeLeft bS w4.heap.size)
  case atStart =>
   refine ⟨_,cnt0,0,_,HR0.out,by have:=HR0.out.cnt_le;omega,(HPB.out.keeps HKS.out id).keeps HK0.out id,fun s h1 h2=>?_,fun _ _=>rfl,Keeps.refl _ _⟩
   have h2:(fS s).isSome=false:=h2;rw [h1] at h2
   cases h2
  case round =>
   obtain ⟨left,cnt,m,g,hrg,hm5,hpm,hgl,hgn,hk⟩:=hrel;have HGN:=h_ hgn;have HR:=h_ hrg;have HP:=h_ hpm;have HGL:=h_ hgl;have HK5:=h_ hk;clear hrg hpm hgl hgn hk
   go_wp2_with (first
    | (at_next;refine wpList_mstep sk _ rfl _ rfl bS w4.heap.size 500 fS left cnt rfl HR.out ?_ ?_)
    | go_in)
   · intro hl
     have HLF:=h_ hl;clear hl;have KW:=h_ (((HKS.out.trans HK0.out).mono (T:=fun k=>k=pb) (fun _ _ e=>e.elim)).trans' HK5.out (fun i hi e=>by rcases e with e | e;exact e;omega))
     have hszr:=HK5.out.size;have hsz5:=HK0.out.size
     have HDO:=h_ (show Does (fun g=>wc.heap.size≤g∧g<w4.heap.size) wr pb from by
      refine ⟨m,g,by omega,HP.out,fun s kd hs=>?_,fun k hk=>HGN.out k (fun s hs=>hk s (by
       have hg:=HG.out s
       cases hks:K_all s with
       | none=>rw [hks] at hg;rw [hg] at hs;cases hs
       | some kd=>rfl))⟩
      have hg:=HG.out s;rw [hs] at hg;obtain ⟨v,h1,h2⟩:=hg;have hsn:=kin_all s (by rw [hs];simp)
      have hok:sk.ok s:=by
       have:∀ s ∈ names,s.length≤1000:=by decide +kernel
       exact Nat.le_trans (this s hsn) (by unfold maxLen;omega)
      refine ⟨v,by rw [HGL.out s (by rw [h1];rfl) (HLF.out s hok),h1],?_⟩
      refine (h2.mono (Y:=fun g=>wc.heap.size≤g∧g<w4.heap.size) (fun g hg hx=>⟨hx,hg⟩)).keeps ?_
      exact KeepX.of ((HK0.out.mono (T:=fun k=>k=pb∨k=w4.heap.size) (fun _ _ e=>e.elim)).trans HK5.out) (fun g hg e=>by have:=hg.1;have:=hg.2;rcases e with e | e <;> omega))
     have BB:=h_ (HB.out.keeps KW.out (fun k hk e=>by
      have e:k=pb:=e;have h1:=HL.out;have h2:=HS3.out;have h3:=HX9.out
      rcases hk with h | h | h | h | h | h <;> omega))
     have MM:=h_ (HM.out.keeps KW.out (fun e=>by have e:b=pb:=e;have h1:=HL.out;have h2:=HS3.out;have h3:=HX9.out;omega) (fun e=>by have e:bb=pb:=e;have h1:=HL.out;have h2:=HS3.out;have h3:=HX9.out;omega))
     have CC:=h_ (HMC.out.keeps KW.out (fun e=>hmp e))
     have NM:=h_ (HNM.out.keeps KW.out (fun e=>HN1.out.1.1 e) (fun e=>HN1.out.1.2 e))
     have KK:=h_ ((HK.out.mono (T:=fun k=>k=pb) (fun _ _ e=>e.elim)).trans KW.out)
     clear HLF HGL HG HMS HP HR HK5 KW HB HM HMC HK HKS HK0 HPB HR0 HNM;have hlo4:wc.heap.size≤w4.heap.size∧w4.heap.size≤wr.heap.size:=⟨h4,by omega⟩
     have hmf:=hmf;have cx11:wr.cell? ⟨x11,0,none⟩=some (.pointer (some ⟨mb,0,none⟩)):=cell_of BB.out.r11 rfl;go_wp2_with fail
     change Code.wp _ _ _ _ (wr.alloc (.cells (newV w.heap.size (w.heap.size+1) (w.heap.size+1+1) (w.heap.size+1+1+1) x9 x11 mb) 80))
     have HN:=h_ (And.intro (And.intro hs0 hs1) (And.intro (And.intro hb1 hb2) (And.intro hs2 hbl)));have SL:=h_ (halloc_at wr (.cells (newV w.heap.size (w.heap.size+1) (w.heap.size+1+1) (w.heap.size+1+1+1) x9 x11 mb) 80));have ka:=ka_ wr (.cells (newV w.heap.size (w.heap.size+1) (w.heap.size+1+1) (w.heap.size+1+1+1) x9 x11 mb) 80);obtain ⟨gp,hgp⟩:∃ gp,gp=wr.heap.size:=⟨_,rfl⟩;rw [← hgp] at SL ⊢;generalize wr.alloc (.cells (newV w.heap.size (w.heap.size+1) (w.heap.size+1+1) (w.heap.size+1+1+1) x9 x11 mb) 80)=V at SL ka ⊢;have hvs:=ka.size;have hgV:=lt_of_heap SL.out;have HGP:=h_ hgp;replace BB:=h_ (BB.out.keeps ka (fun _ _=>id))
     replace MM:=h_ (MM.out.keeps ka id id);replace CC:=h_ (CC.out.keeps ka id);replace NM:=h_ (NM.out.keeps ka id id);replace HDO:=h_ (HDO.out.keeps ka id (fun _ _=>id))
     have hbx:∀ k,(k=w.heap.size∨k=w.heap.size+1∨k=w.heap.size+1+1∨k=w.heap.size+1+1+1∨k=x9∨k=x11)→k≠mb∧k≠bb∧k<wr.heap.size:=fun k hk=>by
      have h1:=HL.out;have h2:=HS3.out;have h3:=HX9.out
      rcases hk with h | h | h | h | h | h <;> omega
     have hmbb:mb≠bb∧mb≠b∧mb≠gp∧bb≠gp∧w.heap.size≤mb∧w.heap.size≤pb∧w.heap.size≤b∧w.heap.size≤bb:=by
      have h1:=HL.out;have h2:=HS3.out;have h3:=HX9.out;omega
     have hbp:bb≠pb:=by
      have h1:=HL.out;have h2:=HS3.out;have h3:=HX9.out;omega
     have hblo:b<wc.heap.size∧bb<wc.heap.size:=by
      have h1:=HL.out;have h2:=HS3.out;have h3:=HX9.out;omega
     have HBX:=h_ hbx;have HMB:=h_ hmbb;have hbne:=MM.out.ne;have KK2:Keeps (fun _=>False) w V:=(KK.out.trans' (ka.mono (T:=fun k=>k=pb) (fun _ _ e=>e.elim)) (fun i hi e=>e)).mono (fun i hi e=>by have e:i=pb:=e;omega)
     replace KK:=h_ KK2;clear KK2 ka hgp hbx hs0 hs1 hb1 hb2 hs2 hbl hlo4;refine wp_loop_rounds 7 ?_;rw [rounds_succ];have cc:V.cell? ⟨gp,0,none⟩=some (.func (.func 122) #[] #[Pt x9,Pt (w.heap.size+1+1+1),Pt w.heap.size,Pt x11]):=cell_of SL.out rfl;go_wp2_with fail;refine (vm_new1 V mb b bb _ _ (dict+data*8+ret*8) dict data ret hz slots _ _ _ _ CC.out MM.out (cell_of BB.out.r9 rfl) (cell_of BB.out.r8 rfl) BB.out.r2 (cell_of BB.out.r11 rfl) (by omega) (by omega) hm h16 (by show _≤((dict+data*8+ret*8+hz).toNat:Int);omega) (by rw [put]) HMB.out.1 HMB.out.2.1 (HBX.out _ (by simp)).2.1 (HBX.out _ (by simp)).2.1 (HBX.out _ (by simp)).2.1 (HBX.out _ (by simp)).2.1 (HBX.out _ (by simp)).1 (HBX.out _ (by simp)).1 (HBX.out _ (by simp)).1 (HBX.out _ (by simp)).1).mono ?_
     rintro e V1 ⟨hb,rfl,r1,q1,l1,k1⟩;rw [put] at q1;have hSL:=k1.heap SL.out (fun e=>by rcases e with e | e;exact HMB.out.2.2.1 e.symm;exact HMB.out.2.2.2.1 e.symm)
     have hBB:=BB.out.keeps k1 (fun k hk e=>by have:=HBX.out k hk;rcases e with e | e;exact this.1 e;exact this.2.1 e)
     have hDO:=HDO.out.keeps k1 (fun e=>by rcases e with e | e;exact hmp e.symm;exact hbp e.symm) (fun g hg e=>by rcases e with e | e <;> omega)
     have hNM:=NM.out.keeps k1 (fun e=>by have hN2:=HN1.out;have h1:=HMB.out;rcases e with e | e <;> omega) (fun e=>by have hN2:=HN1.out;have h1:=HMB.out;rcases e with e | e <;> omega)
     have hKK:Keeps (fun _=>False) w V1:=KK.out.trans' k1 (fun i hi e=>by have:=HMB.out;rcases e with e | e <;> omega)
     have hs1:=k1.size;have hh1:=lt_of_heap q1.head;replace SL:=h_ hSL;replace BB:=h_ hBB;replace HDO:=h_ hDO;replace NM:=h_ hNM;replace KK:=h_ hKK;have R1:=h_ r1;have Q1:=h_ q1;clear hSL hBB hDO hNM hKK r1 q1 k1 cc MM CC;have htop:=Q1.out.top;have hgb:=HMB.out;go_wp2_with fail;rw [rounds_succ];have cc:V1.cell? ⟨gp,1,none⟩=some (.func (.func 124) #[] #[Pt x9,Pt (w.heap.size+1),Pt w.heap.size,Pt x11]):=cell_of SL.out rfl;go_wp2_with fail;refine (vm_new2 V1 mb b bb _ _ dict dict data ret hz slots _ _ _ _ R1.out Q1.out.mem (cell_of BB.out.r9 rfl) (cell_of BB.out.r6 rfl) BB.out.r2 (cell_of BB.out.r11 rfl) (by omega) dm t0 (by omega) (by omega) (HBX.out _ (by simp)).1 (HBX.out _ (by simp)).1 (HBX.out _ (by simp)).1 (HBX.out _ (by simp)).1).mono ?_
     rintro e V2 ⟨db,rfl,r2,sd,l2,k2⟩;have hSL:=k2.heap SL.out (fun e=>by have h1:=HMB.out;have e:gp=mb:=e;omega)
     have hBB:=BB.out.keeps k2 (fun k hk e=>by have h1:=HBX.out k hk;have e:k=mb:=e;omega)
     have hDO:=HDO.out.keeps k2 (fun e=>by have e:pb=mb:=e;omega) (fun g hg e=>by have e:g=mb:=e;omega)
     have hNM:=NM.out.keeps k2 (fun e=>by have hN2:=HN1.out;have e:nb=mb:=e;omega) (fun e=>by have hN2:=HN1.out;have e:im=mb:=e;omega)
     have hKK:Keeps (fun _=>False) w V2:=KK.out.trans' k2 (fun i hi e=>by have h1:=HMB.out;have e:i=mb:=e;omega)
     have hszV2:=k2.size;have hh2:=lt_of_heap sd.head;have Q2:=h_ (Q1.out.keeps k2 (fun e=>by have e:hb=mb:=e;omega) (fun e=>HMB.out.2.1 (by have e:b=mb:=e;exact e.symm)) (fun e=>HMB.out.1 (by have e:bb=mb:=e;exact e.symm)))
     replace SL:=h_ hSL;replace BB:=h_ hBB;replace HDO:=h_ hDO;replace NM:=h_ hNM;replace KK:=h_ hKK;have R2:=h_ r2;have SD:=h_ sd;clear hSL hBB hDO hNM hKK r2 sd k2 cc R1 Q1;go_wp2_with fail;rw [rounds_succ];have cc:V2.cell? ⟨gp,2,none⟩=some (.func (.func 126) #[] #[Pt x9,Pt (w.heap.size+1+1),Pt w.heap.size,Pt x11]):=cell_of SL.out rfl;go_wp2_with fail;refine (vm_new3 V2 mb b bb _ _ (dict+data*8) dict data ret hz slots _ _ _ _ R2.out Q2.out.mem (cell_of BB.out.r9 rfl) (cell_of BB.out.r7 rfl) BB.out.r2 (cell_of BB.out.r11 rfl) (by omega) (by omega) r0 (by omega) (by omega) (HBX.out _ (by simp)).1 (HBX.out _ (by simp)).1 (HBX.out _ (by simp)).1 (HBX.out _ (by simp)).1).mono ?_
     rintro e V3 ⟨rb,rfl,r3,sr,l3,k3⟩;have hSL:=k3.heap SL.out (fun e=>by have h1:=HMB.out;have e:gp=mb:=e;omega)
     have hBB:=BB.out.keeps k3 (fun k hk e=>by have h1:=HBX.out k hk;have e:k=mb:=e;omega)
     have hDO:=HDO.out.keeps k3 (fun e=>by have e:pb=mb:=e;omega) (fun g hg e=>by have e:g=mb:=e;omega)
     have hNM:=NM.out.keeps k3 (fun e=>by have hN2:=HN1.out;have e:nb=mb:=e;omega) (fun e=>by have hN2:=HN1.out;have e:im=mb:=e;omega)
     have hKK:Keeps (fun _=>False) w V3:=KK.out.trans' k3 (fun i hi e=>by have h1:=HMB.out;have e:i=mb:=e;omega)
     have hszV3:=k3.size;have hh3:=lt_of_heap sr.head;have Q3:=h_ (Q2.out.keeps k3 (fun e=>by have e:hb=mb:=e;omega) (fun e=>HMB.out.2.1 (by have e:b=mb:=e;exact e.symm)) (fun e=>HMB.out.1 (by have e:bb=mb:=e;exact e.symm)))
     have SD3:=h_ (SD.out.keeps k3 (fun e=>by have e:db=mb:=e;omega))
     replace SL:=h_ hSL;replace BB:=h_ hBB;replace HDO:=h_ hDO;replace NM:=h_ hNM;replace KK:=h_ hKK;have R3:=h_ r3;have SR:=h_ sr;clear hSL hBB hDO hNM hKK r3 sr k3 cc R2 Q2 SD;go_wp2_with fail;rw [rounds_succ];have cc:V3.cell? ⟨gp,3,none⟩=some (.func (.func 127) #[] #[Pt x9,Pt w.heap.size,Pt x11]):=cell_of SL.out rfl;go_wp2_with fail;refine (vm_new4 V3 mb b bb _ _ dict data ret hz slots _ _ _ R3.out Q3.out.mem (cell_of BB.out.r9 rfl) BB.out.r2 (cell_of BB.out.r11 rfl) d8 (by omega) (HBX.out _ (by simp)).1 (HBX.out _ (by simp)).1 (HBX.out _ (by simp)).1).mono ?_
     rintro e V4 ⟨s,rfl,r4,sp,l4,k4⟩;have hSL:=k4.heap SL.out (fun e=>by have h1:=HMB.out;have e:gp=mb:=e;omega)
     have hBB:=BB.out.keeps k4 (fun k hk e=>by have h1:=HBX.out k hk;have e:k=mb:=e;omega)
     have hDO:=HDO.out.keeps k4 (fun e=>by have e:pb=mb:=e;omega) (fun g hg e=>by have e:g=mb:=e;omega)
     have hNM:=NM.out.keeps k4 (fun e=>by have hN2:=HN1.out;have e:nb=mb:=e;omega) (fun e=>by have hN2:=HN1.out;have e:im=mb:=e;omega)
     have hKK:Keeps (fun _=>False) w V4:=KK.out.trans' k4 (fun i hi e=>by have h1:=HMB.out;have e:i=mb:=e;omega)
     have hszV4:=k4.size;have hh4:=lt_of_heap sp.head;have Q4:=h_ (k4.heap Q3.out.head (fun e=>by have e:hb=mb:=e;omega))
     have SD4:=h_ (SD3.out.keeps k4 (fun e=>by have e:db=mb:=e;omega))
     have SR4:=h_ (SR.out.keeps k4 (fun e=>by have e:rb=mb:=e;omega))
     replace SL:=h_ hSL;replace BB:=h_ hBB;replace HDO:=h_ hDO;replace NM:=h_ hNM;replace KK:=h_ hKK;have R4:=h_ r4;have SP:=h_ sp;clear hSL hBB hDO hNM hKK r4 sp k4 cc R3 Q3 SD3 SR;go_wp2_with fail;rw [rounds_succ];have cc:V4.cell? ⟨gp,4,none⟩=some (.func (.func 129) #[] #[Pt x11]):=cell_of SL.out rfl;go_wp2_with fail;refine (vm_new5 V4 mb s b bb _ _ _ _ _ R4.out rfl SP.out rt (cell_of BB.out.r11 rfl) (by omega) HMB.out.2.1 HMB.out.1 (by have:=(HBX.out x11 (by simp)).2.2;omega) (HBX.out _ (by simp)).2.1 (HBX.out _ (by simp)).1).mono ?_
     rintro e V5 ⟨rfl,r5,sp,k5⟩;have hSL:=k5.heap SL.out (fun e=>by have h1:=HMB.out;rcases e with e | e | e <;> omega)
     have hBB:=BB.out.keeps k5 (fun k hk e=>by have h1:=HBX.out k hk;rcases e with e | e | e <;> omega)
     have hDO:=HDO.out.keeps k5 (fun e=>by rcases e with e | e | e <;> omega) (fun g hg e=>by rcases e with e | e | e <;> omega)
     have hNM:=NM.out.keeps k5 (fun e=>by have hN2:=HN1.out;have h1:=HMB.out;rcases e with e | e | e <;> omega) (fun e=>by have hN2:=HN1.out;have h1:=HMB.out;rcases e with e | e | e <;> omega)
     have hKK:Keeps (fun _=>False) w V5:=KK.out.trans' k5 (fun i hi e=>by have h1:=HMB.out;rcases e with e | e | e <;> omega)
     have hszV5:=k5.size;have Q5:=h_ (k5.heap Q4.out (fun e=>by rcases e with e | e | e <;> omega))
     have SD5:=h_ (SD4.out.keeps k5 (fun e=>by rcases e with e | e | e <;> omega))
     have SR5:=h_ (SR4.out.keeps k5 (fun e=>by rcases e with e | e | e <;> omega))
     replace SL:=h_ hSL;replace BB:=h_ hBB;replace HDO:=h_ hDO;replace NM:=h_ hNM;replace KK:=h_ hKK;have R5:=h_ r5;replace SP:=h_ sp;clear hSL hBB hDO hNM hKK r5 sp k5 cc R4 Q4 SD4 SR4;go_wp2_with fail;rw [rounds_succ];have cc:V5.cell? ⟨gp,5,none⟩=some (.func (.func 131) #[Pt mb] #[]):=cell_of SL.out rfl;go_wp2_with fail;refine (vm_prims V5 mb s b bb _ _ _ _ _ _ R5.out rfl SP.out pr (by omega) HMB.out.2.1 HMB.out.1).mono ?_
     rintro e V6 ⟨rfl,r6,sp,k6⟩;have hSL:=k6.heap SL.out (fun e=>by have h1:=HMB.out;rcases e with e | e | e <;> omega)
     have hBB:=BB.out.keeps k6 (fun k hk e=>by have h1:=HBX.out k hk;rcases e with e | e | e <;> omega)
     have hDO:=HDO.out.keeps k6 (fun e=>by rcases e with e | e | e <;> omega) (fun g hg e=>by rcases e with e | e | e <;> omega)
     have hNM:=NM.out.keeps k6 (fun e=>by have hN2:=HN1.out;have h1:=HMB.out;rcases e with e | e | e <;> omega) (fun e=>by have hN2:=HN1.out;have h1:=HMB.out;rcases e with e | e | e <;> omega)
     have hKK:Keeps (fun _=>False) w V6:=KK.out.trans' k6 (fun i hi e=>by have h1:=HMB.out;rcases e with e | e | e <;> omega)
     have hszV6:=k6.size;have Q6:=h_ (k6.heap Q5.out (fun e=>by rcases e with e | e | e <;> omega))
     have SD6:=h_ (SD5.out.keeps k6 (fun e=>by rcases e with e | e | e <;> omega))
     have SR6:=h_ (SR5.out.keeps k6 (fun e=>by rcases e with e | e | e <;> omega))
     replace SL:=h_ hSL;replace BB:=h_ hBB;replace HDO:=h_ hDO;replace NM:=h_ hNM;replace KK:=h_ hKK;have R6:=h_ r6;replace SP:=h_ sp;clear hSL hBB hDO hNM hKK r6 sp k6 cc R5 Q5 SD5 SR5;go_wp2_with fail;rw [rounds_succ];have c11:V6.cell? ⟨x11,0,none⟩=some (.pointer (some ⟨mb,0,none⟩)):=cell_of BB.out.r11 rfl;go_wp2_with fail;go_ret2
     refine ⟨mb,nb,pb,s,b,bb,db,rb,hb,wc.heap.size,w4.heap.size,rfl,R6.out,SP.out,SD6.out,SR6.out,Q6.out,HDO.out,?_,?_,h4,?_,?_,?_,?_,hmp,HMB.out.2.1,HMB.out.1,hbne,KK.out,im,NM.out,⟨HN1.out.2.2.2.2.2.1,HN1.out.2.2.2.2.2.2⟩,HN1.out.2.2.2.2.1,HN1.out.2.1,HN1.out.1,HN1.out.2.2.1,HN1.out.2.2.2.1⟩
     · exact HMB.out.2.2.2.2
     all_goals omega
   · intro x v w6 cnt1 hok hlx hfx hrg1 hlt hg1 hen
     have hr:=HR.out.lts;have HR1:=h_ hrg1;have HP1:=h_ (HP.out.keeps hg1 (fun e=>by have e:pb=w4.heap.size:=e;omega))
     have HK1:=h_ (HK5.out.trans (hg1.mono (T:=fun k=>k=pb∨k=w4.heap.size) (fun _ _ e=>.inr e)))
     have KW6:=((HKS.out.trans HK0.out).mono (T:=fun k=>k=pb) (fun _ _ e=>e.elim)).trans' HK1.out (fun i hi e=>by rcases e with e | e;exact e;omega)
     have HFX:=h_ hfx;have c11:w6.cell? ⟨x11,0,none⟩=some (.pointer (some ⟨mb,0,none⟩)):=cell_of (KW6.heap HB.out.r11 hxp) rfl;have c17:w6.cell? ⟨mb,17,none⟩=some (.map (some pb)):=cell_of (KW6.heap HMC.out hmp) rfl
     change (Instr.entry (.pointer (some ⟨w4.heap.size,0,none⟩))).run Tryz.prog w6=.ok (.tuple #[.string ⟨x.toArray⟩,v]) w6 at hen
     rw [show sk.val x=Value.string ⟨x.toArray⟩ from rfl]
     have hnk:=num_ok x;have HNK:=h_ hnk;clear hrg1 hg1 hfx hok hlx hnk KW6;go_wp2_with fail
     go_region_held3 (fun w'=>w'.cell? ⟨x11,0,none⟩=some (.pointer (some ⟨mb,0,none⟩))∧w'.cell? ⟨mb,17,none⟩=some (.map (some pb)))
      (first | go_keep | exact ⟨k8.cell q11 hxp,k8.cell q17 hmp⟩)
      (first
        | (go_at_call 121;refine (number_any x w6.drew).mono ?_;rintro e w7 ⟨rfl,k7⟩;dsimp only
           have k7:=(kd_ w6).trans k7;have q11:=k7.cell c11 id;have q17:=k7.cell c17 id;obtain ⟨w8,hrun,hp8,k8⟩:=map_run ik 45 _ Tryz.underlying45 (HP1.out.keeps k7 id) (by unfold maxLen;omega) (num x) HNK.out v
           have hrun:(Instr.mapUpdate 45 (.map (some pb)) (.int .i64 (num x)) v).run Tryz.prog w7=.ok () w8:=hrun))
     have HR8:=h_ ((HR1.out.keeps k7 id id).keeps k8 (fun e=>by have e:bS=pb:=e;omega) (fun e=>by have e:w4.heap.size=pb:=e;omega))
     have HP8:=h_ hp8;have HK8:=h_ ((HK1.out.trans (k7.mono (T:=fun k=>k=pb∨k=w4.heap.size) (fun _ _ e=>e.elim))).trans (k8.mono (T:=fun k=>k=pb∨k=w4.heap.size) (fun _ _ e=>.inl e)))
     have HG8:=h_ (show ∀ s,(fS s).isSome=true→(left s && !decide (s=x))=false→upd g (num x) v (num s)=fS s from by
      intro s h1 h2
      have hin:∀ s,(fS s).isSome=true→s ∈ names:=fun s hs=>kin_all s (fun e=>by
       have:=HG.out s;rw [e] at this;rw [this] at hs
       cases hs)
      unfold upd;by_cases e:s=x
      · rw [if_pos (by rw [e]),e,HFX.out]
      · rw [if_neg (fun e'=>e (num_inj (hin s h1) (hin x (by rw [HFX.out];rfl)) e'))]
        refine HGL.out s h1 ?_
        simpa [e] using h2)
     have HG9:=h_ (show ∀ k,(∀ s,(fS s).isSome=true→num s≠k)→upd g (num x) v k=none from by
      intro k hk;unfold upd;rw [if_neg (fun e=>hk x (by rw [HFX.out];rfl) e.symm)]
      exact HGN.out k hk)
     clear hp8 k8 k7 hrun q11 q17 c11 c17 hen;go_wp2_with fail
     go_roundw
     case rel=>exact ⟨_,cnt1,m+1,_,HR8.out,by omega,HP8.out,HG8.out,HG9.out,HK8.out⟩
     case measure=>rw [HR8.out.left_eq,HR.out.left_eq];exact hlt
end Go.Proofs.Shed
namespace Go.Proofs.Shed
open Go Go.RowKit Go.Proofs.K
theorem figsN_len (b:Nat):∀ (k n:Nat),(Num.figsN b k n).length≤k
 | 0,_=>Nat.le_refl _
 | k+1,n=>by
  unfold Num.figsN;rw [List.length_cons];split
  · simp
  · have:=figsN_len b k (n / b);omega
theorem unsigned_len (n b:Int):(Num.unsigned n b).length≤64:=by
 unfold Num.unsigned;split
 · rw [List.length_reverse];exact figsN_len _ _ _
 · simp
theorem show_len (n b:Int):(Num.show_ n b).length≤65:=by
 unfold Num.show_;split
 · rw [List.length_cons];have:=unsigned_len (-n) b;omega
 · have:=unsigned_len (n % 18446744073709551616) b;omega
theorem num_unsigned_bad (w:World) (n:Nat) (b:Int) (hr:Num.right b=false) :
 Calls Tryz.prog 91 #[.int .u64 n,.int .i64 b] w fun e w'=>e=.returned (.string ⟨#[]⟩)∧Keeps (fun _=>False) w w':=by
 have hR:=num_right w b;rw [hr] at hR;have HR:=h_ hR;clear hR hr
 go_enter Tryz.func91,Tryz.ntmps91
 go_wp2_with fail;refine HR.out.mono ?_;rintro e w1 ⟨rfl,rfl⟩;go_wp2_with fail;go_ret
 exact ⟨rfl,Keeps.refl _ _⟩
theorem num_unsigned_all (w:World) (n:Nat) (b:Int) (hn:n<18446744073709551616) :
 Calls Tryz.prog 91 #[.int .u64 n,.int .i64 b] w fun e w'=>e=.returned (.string ⟨(Num.unsigned n b).toArray⟩)∧Keeps (fun _=>False) w w':=by
 by_cases hr:Num.right b=true
 · have h2:2≤b∧b≤36:=by unfold Num.right at hr;simpa using hr
   obtain ⟨k,rfl⟩:∃ k:Nat,b=k:=⟨b.toNat,by omega⟩
   exact num_unsigned w n k hn (by omega) (by omega)
 · have hr:Num.right b=false:=by simpa using hr
   have:Num.unsigned n b=[]:=by unfold Num.unsigned;rw [hr];rfl
   rw [this];exact num_unsigned_bad w n b hr
theorem num_show_all (w:World) (n b:Int) (n0 : -9223372036854775808≤n) (n1:n≤9223372036854775807) :
 Calls Tryz.prog 39 #[.int .i64 n,.int .i64 b] w fun e w'=>e=.returned (.string ⟨(Num.show_ n b).toArray⟩)∧Keeps (fun _=>False) w w':=by
 have HR:=h_ (num_right w b);by_cases hn:n<0
 · obtain ⟨k,rfl⟩:∃ k:Nat,n = -(k:Int):=⟨(-n).toNat,by omega⟩
   have hk:0<k:=by omega
   have hk':(0:Int)<k:=by omega
   obtain ⟨m,hm⟩:∃ m:Nat,m=18446744073709551616-k:=⟨_,rfl⟩;have hc:IntKind.u64.wrap (-(k:Int))=(m:Int):=by rw [IntKind.wrap_u64];omega
   have hg:IntKind.u64.wrap (-(m:Int))=(k:Int):=by rw [IntKind.wrap_u64];omega
   cases hr:Num.right b with
   | true =>
    rw [hr] at HR
    have hs:Num.show_ (-(k:Int)) b=45 :: Num.unsigned k b:=by
     unfold Num.show_;rw [if_pos ⟨hn,hr⟩,show (-(-(k:Int)))=k by omega]
    have hU:=h_ fun V=>num_unsigned_all V k b (by omega)
    have ha:=str_app [45] (Num.unsigned k b);have hl:=unsigned_len k b;rw [hs];generalize Num.unsigned k b=R at hU ha hl ⊢;have hn9:¬ 9223372036854775807<1+R.length:=by omega
    clear hr hn hs n0 n1 hm
    go_enter Tryz.func39,Tryz.ntmps39
    go_wp2_with fail;refine HR.out.mono ?_;rintro e w1 ⟨rfl,rfl⟩;go_wp2_with fail;refine (hU.out _).mono ?_;rintro e w2 ⟨rfl,k2⟩;have K2:=h_ k2;clear k2;go_wp2_with fail;go_ret
    exact ⟨rfl,K2.out⟩
   | false =>
    rw [hr] at HR
    have hs:Num.show_ (-(k:Int)) b=Num.unsigned m b:=by
     unfold Num.show_;rw [if_neg (by rw [hr];simp),show (-(k:Int)) % 18446744073709551616=(m:Int) by omega]
    have hU:=h_ fun V=>num_unsigned_all V m b (by omega)
    rw [hs];generalize Num.unsigned m b=R at hU ⊢;clear hr hn hs n0 n1 hm
    go_enter Tryz.func39,Tryz.ntmps39
    go_wp2_with fail;refine HR.out.mono ?_;rintro e w1 ⟨rfl,rfl⟩;go_wp2_with fail;refine (hU.out _).mono ?_;rintro e w2 ⟨rfl,k2⟩;have K2:=h_ k2;clear k2;go_wp2_with fail;go_ret
    exact ⟨rfl,K2.out⟩
 · obtain ⟨k,rfl⟩:∃ k:Nat,n=k:=⟨n.toNat,by omega⟩
   have d1:decide ((k:Int)<0)=false:=decide_eq_false hn
   have hs:Num.show_ k b=Num.unsigned k b:=by
    unfold Num.show_;rw [if_neg (by omega),show ((k:Nat):Int) % 18446744073709551616=k by omega]
   have hU:=h_ fun V=>num_unsigned_all V k b (by omega)
   rw [hs];generalize Num.unsigned k b=R at hU ⊢;have hc:IntKind.u64.wrap (k:Int)=(k:Int):=by rw [IntKind.wrap_u64];omega
   clear hn hs n0 HR
   go_enter Tryz.func39,Tryz.ntmps39
   go_wp2_with fail;refine (hU.out _).mono ?_;rintro e w2 ⟨rfl,k2⟩;have K2:=h_ k2;clear k2;go_wp2_with fail;go_ret
   exact ⟨rfl,K2.out⟩
end Go.Proofs.Shed
namespace Go.Proofs.Shed
open Go Go.RowKit Go.Proofs.K Go.Proofs.Cod
theorem root_comma {x x1:Sp} {root:Int} (h8:x.here % 8=0) (h:Class.root x=(x1,root,0)):x.comma 0=(x1,0)∧root=x.here:=by
 have ha:x.align=(x,0):=by
  show Sp.alignN (7+1) x=_
  rw [Sp.alignN,if_pos h8]
 unfold Class.root at h;rw [ha] at h;rw [if_neg (show ¬ ((0:Int)≠0) from fun e=>e rfl)] at h
 split at h
 · rename_i e
   injection h with h1 h2
   injection h2 with h3 h4
   exact absurd h4 e
 · rename_i e
   injection h with h1 h2
   injection h2 with h3 h4
   exact ⟨Prod.ext h1 (by simpa using e),h3.symm⟩
theorem four_alloc (w:World) (o1 o2 o3 o4:Obj):((((w.alloc o1).alloc o2).alloc o3).alloc o4).heap[w.heap.size]?=some o1∧((((w.alloc o1).alloc o2).alloc o3).alloc o4).heap[w.heap.size+1]?=some o2 ∧
 ((((w.alloc o1).alloc o2).alloc o3).alloc o4).heap[w.heap.size+1+1]?=some o3∧((((w.alloc o1).alloc o2).alloc o3).alloc o4).heap[w.heap.size+1+1+1]?=some o4∧Keeps (fun _=>False) w ((((w.alloc o1).alloc o2).alloc o3).alloc o4):=by
 have k1:=ka_ w o1;have k2:=ka_ (w.alloc o1) o2;have k3:=ka_ ((w.alloc o1).alloc o2) o3;have k4:=ka_ (((w.alloc o1).alloc o2).alloc o3) o4;have h1:=halloc_at w o1;have h2:=halloc_at (w.alloc o1) o2;have h3:=halloc_at ((w.alloc o1).alloc o2) o3;have h4:=halloc_at (((w.alloc o1).alloc o2).alloc o3) o4;rw [show (w.alloc o1).heap.size=w.heap.size+1 by simp] at h2
 rw [show ((w.alloc o1).alloc o2).heap.size=w.heap.size+1+1 by simp] at h3
 rw [show (((w.alloc o1).alloc o2).alloc o3).heap.size=w.heap.size+1+1+1 by simp] at h4
 exact ⟨k4.heap (k3.heap (k2.heap h1 id) id) id,k4.heap (k3.heap h2 id) id,k4.heap h3 id,h4,((k1.trans k2).trans k3).trans k4⟩
def RRk (w:World) (d b:Nat) (from_ most over under:Int):Prop:=w.heap[d]?=some (.cells #[.pointer (some ⟨b,0,none⟩),.int .i64 from_,.int .i64 most,.int .i64 0,.int .i64 over,.int .i64 under] 251 (0,0))
theorem ref_new (w:World) (dict data ret hz slots:Int) (inp:List UInt8) (m1:Mem) (x1 y:Sp) (root base list caught:Int) (ok:NewOk dict data ret hz m1 x1 y root base list caught) :
 Calls Tryz.prog 72 #[.int .i64 dict,.int .i64 data,.int .i64 ret,.int .i64 hz,.string ⟨inp.toArray⟩] w fun e w'=>∃ (r bb:Nat) (c:Rc),e=.returned (.tuple #[.pointer (some ⟨r,0,none⟩),.int .i64 0])∧RRc w' r c∧RRs w' c.ss c.ms bb y ∧
  RRk w' c.ds c.ms dict data (-3) (-4)∧RRk w' c.rs c.ms (dict+data*8) ret (-5) (-6)∧c.root=root∧c.base=base∧c.caught=caught∧c.list=list∧c.inp=inp∧w.heap.size≤r∧Keeps (fun _=>False) w w':=by
 obtain ⟨d8,dm,t0,r0,h16,hm,top,put,rt,pr⟩:=ok;obtain ⟨hcm,hroot⟩:=root_comma (x:=⟨m1,8,dict,8⟩) rfl rt;dsimp only at hroot;subst hroot;obtain ⟨N,hN⟩:∃ N:Nat,(N:Int)=dict+data*8+ret*8+hz:=⟨(dict+data*8+ret*8+hz).toNat,by omega⟩
 rw [← hN,Int.toNat_natCast] at put;obtain ⟨F,hF⟩:∃ F:Int,F=dict+8*data+8*ret:=⟨_,rfl⟩;have hF2:dict+data*8+ret*8=F:=by omega
 rw [hF2] at put hN;have a5:F+hz=(N:Int):=hN.symm;have a6:¬ (1048576:Int)<(N:Int):=by omega
 have HP:=h_ put;have HM:=h_ fun V=>rm_new V N (by omega)
 have mn:∀ V,(Builtin.min_ #[2,2] 2 #[.int .i64 8,.int .i64 dict]).run Tryz.prog V=.ok (.int .i64 8) V:=by
  intro V
  show Result.ok (Value.int .i64 (if dict<8 then dict else 8)) V=_
  rw [if_neg (by omega)]
 go_enter Tryz.func72,Tryz.ntmps72
 go_upto_region 2 with fail;have hF3:dict+8*data+8*ret=F:=hF.symm;rw [hF3];clear hF;have q1:dict+8*data=F-8*ret:=by omega
 have HF3:=h_ hF3;have HF2:=h_ hF2;have A5:=h_ a5;have b0:8≤F:=by omega
 have b1:F≤1048576:=by omega
 clear hF2 hF3 q1 put hN;go_wp2_with fail;refine (HM.out _).mono ?_;rintro e w1 ⟨b,bb,rfl,r1,g1,g2,k1⟩;have R1:=h_ r1;have G1:=h_ (And.intro g1 g2);have K1:=h_ k1;have HR:=h_ (ref_right w1 b bb (Mem.zero N) F N r1 (by omega) (by have:=HF2.out;omega) (by have:=HF2.out;omega) (Int.le_refl _) (by omega))
 have HN:=h_ (ref_hnew w1 b bb (Mem.zero N) F N r1 (by omega) (Int.le_refl _) (by omega))
 clear r1 g1 g2 k1;go_wp2_with fail;refine HR.out.mono ?_;rintro e w2 ⟨rfl,rfl⟩;go_wp2_with fail;refine HN.out.mono ?_;rintro e w2 ⟨hb,rfl,r2,g2,k2⟩
 have hm1:((Mem.zero N).setCell F ((N:Int)-F)).1=m1:=by
  have:=congrArg Prod.fst HP.out;rw [show (N:Int)-F=hz from by omega]
  exact this
 rw [hm1] at r2;have R2:=h_ r2;have G2:=h_ g2;have K2:=h_ (k2);clear r2 g2 k2 hm1;go_wp2_with fail;refine (ref_names w2).mono ?_;rintro e w3 ⟨na,nc,rfl,o3,g3,k3⟩;have R3:=h_ (R2.out.keeps k3 id id);have O3:=h_ o3;have G3:=h_ g3;have K3:=h_ k3;clear o3 g3 k3;go_wp2_with fail
 obtain ⟨m0,m1',m2,m3,k4⟩:=four_alloc w3 (.cells (Rc.cells ⟨b,w3.heap.size+1+1+1,w3.heap.size+1,w3.heap.size+1+1,hb,na,nc,0,0,0,0,inp⟩) 163)
  (.cells #[.pointer (some ⟨b,0,none⟩),.int .i64 dict,.int .i64 data,.int .i64 0,.int .i64 (-3),.int .i64 (-4)] 251)
  (.cells #[.pointer (some ⟨b,0,none⟩),.int .i64 (dict+8*data),.int .i64 ret,.int .i64 0,.int .i64 (-5),.int .i64 (-6)] 251)
  (.cells #[.pointer (some ⟨b,0,none⟩),.int .i64 8,.int .i64 dict,.int .i64 8] 158)
 unfold Rc.cells at m0 m1' m2 m3 k4;dsimp only at m0 m1' m2 m3 k4;generalize World.alloc (World.alloc (World.alloc (World.alloc w3 _) _) _) _=W at m0 m1' m2 m3 k4 ⊢;obtain ⟨g,hg⟩:∃ g,g=w3.heap.size:=⟨_,rfl⟩;rw [← hg] at m0 m1' m2 m3 ⊢;have hb3:=R3.out.lt;have hx:na<w3.heap.size:=O3.out.lt rfl;have hg3:w2.heap.size≤na:=G3.out;have hb2:b<w2.heap.size∧bb<w2.heap.size:=R2.out.lt;have hbn:=R3.out.ne;have hzz:(Heap.put (Mem.zero N) ⟨F,hz,false⟩).1.size=(Mem.zero N).size:=Mem.setCell_size _ _ _;rw [HP.out] at hzz
 have hsz:dict≤(m1.size:Int):=by
  have h1:m1.size=N:=hzz;rw [h1];have:=HF2.out;have:=A5.out;omega
 have RS:RRs W (g+1+1+1) b bb ⟨m1,8,dict,8⟩:=⟨m3,R3.out.keeps k4 id id,by omega,by omega,Int.le_of_lt (show (0:Int)<8 from by decide),Int.le_refl _,d8,hsz⟩
 have HF:=h_ (ref_fill W g (g+1+1+1) b bb ⟨b,g+1+1+1,g+1,g+1+1,hb,na,nc,0,0,0,0,inp⟩ ⟨m1,8,dict,8⟩ x1 y base list caught m0 rfl RS hcm pr (O3.out.keeps k4 (fun _ _=>id)) (by omega) (by omega) (by omega) (show na≠g+1+1+1 by omega) (show na≠g by omega) (show na≠bb by omega))
 have hgw:w.heap.size≤g:=by have:=K1.out.size;have:=K2.out.size;have:=K3.out.size;omega
 have hbw:=G1.out;have KW:=h_ (((K1.out.trans' K2.out (fun i hi e=>by have e:i=bb:=e;omega)).trans K3.out).trans k4)
 have M1:=h_ m1';have M2:=h_ m2;have HG:=h_ (show b<g∧bb<g∧w.heap.size≤g∧w.heap.size≤bb from ⟨by omega,by omega,hgw,hbw.2⟩)
 clear m0 m1' m2 m3 k4 RS hgw hbw hzz hsz hg3 hb2 hx hb3 hbn;refine HF.out.mono ?_;rintro e w5 ⟨rfl,c5,r5,k5⟩;have C5:=h_ c5;have R5:=h_ r5;have K5:=h_ k5;clear c5 r5 k5;go_wp2_with fail;go_ret2
 have S1:=K5.out.heap M1.out (fun e=>by have:=HG.out;rcases e with e | e | e <;> omega)
 have S2:=K5.out.heap M2.out (fun e=>by have:=HG.out;rcases e with e | e | e <;> omega)
 rw [show dict+8*data=dict+data*8 by omega] at S2
 exact ⟨g,bb,_,(by subst hg;rfl),C5.out,R5.out,S1,S2,rfl,rfl,rfl,rfl,rfl,HG.out.2.2.1,KW.out.trans' K5.out (fun i hi e=>by have:=HG.out;rcases e with e | e | e <;> omega)⟩
end Go.Proofs.Shed
