/- Of CallsG: WTableD, WClass, WClassB, WClassC, WClassD, WClassE. No condition. -/
import Derived.Test.YthhfkhhhclmimaaGreatDoorM03
set_option linter.unusedVariables false
set_option linter.unusedSimpArgs false
set_option maxRecDepth 10000
set_option maxHeartbeats 1000000
namespace Go.Proofs.Shed
open Go Go.RowKit Go.Proofs.K
def MkPost (s b bb:Nat) (r:Sp × Int × Int) (w:World) (e:Ending) (w':World):Prop :=
 e=.returned (.tuple #[.int .i64 r.2.1,.int .i64 r.2.2])∧RSp w' s b bb r.1∧Keeps (fun k=>k=s∨k=bb) w w'
theorem class_root (w:World) (s b bb:Nat) (x:Sp) (h:RSp w s b bb x) :
 Calls Tryz.prog 130 #[.pointer (some ⟨s,0,none⟩)] w (MkPost s b bb (Class.root x) w):=by
 have H:=h_ h;clear h
 have HD:Hid (Class.root x=if x.align.2≠0 then (x.align.1,0,x.align.2)
  else if (x.align.1.comma 0).2≠0 then ((x.align.1.comma 0).1,0,(x.align.1.comma 0).2)
  else ((x.align.1.comma 0).1,x.align.1.here,0)):=rfl
 generalize Class.root x=r at HD ⊢;have hal:=h_ (sp_align w s b bb x H.out);generalize x.align=q at hal HD;obtain ⟨y,e⟩:=q;simp only at HD
 go_enter Tryz.func130,Tryz.ntmps130
 go_wp2_with fail;refine hal.out.mono ?_;rintro e0 w1 ⟨rfl,s1,k1⟩;have S1:=h_ s1;have K1:=h_ k1;clear s1 k1;by_cases he:e=0
 · have hr:=HD.out
   rw [if_neg (by simpa using he)] at hr
   have he':(e != 0)=false:=by simp [he]
   have hc:=h_ (sp_comma w1 s b bb y 0 S1.out);generalize y.comma 0=q at hc hr;obtain ⟨z,e2⟩:=q;simp only at hr
   have HR:=h_ hr;clear hr HD he;go_wp2_with fail;refine (sp_here _ _ _ _ _ S1.out).mono ?_;rintro e0 w2 ⟨rfl,rfl⟩;go_wp2_with fail;refine hc.out.mono ?_;rintro e0 w2 ⟨rfl,s2,k2⟩;have S2:=h_ s2;have K2:=h_ (K1.out.trans k2);clear s2 k2;by_cases he2:e2=0
   · have hr:=HR.out
     rw [if_neg (by simpa using he2)] at hr
     have he2':(e2 != 0)=false:=by simp [he2]
     have HE:=h_ hr;clear hr he2;go_wp2_with fail;go_ret2
     exact ⟨by rw [HE.out];rfl,by rw [HE.out];exact S2.out,K2.out⟩
   · have hr:=HR.out
     rw [if_pos he2] at hr;have he2':(e2 != 0)=true:=by simp [he2]
     have HE:=h_ hr;clear hr he2;go_wp2_with fail;go_ret2
     exact ⟨by rw [HE.out];rfl,by rw [HE.out];exact S2.out,K2.out⟩
 · have hr:=HD.out
   rw [if_pos he] at hr;have he':(e != 0)=true:=by simp [he]
   have HE:=h_ hr;clear hr he HD;go_wp2_with fail;go_ret2
   exact ⟨by rw [HE.out];rfl,by rw [HE.out];exact S1.out,K1.out⟩
def Cls.val (c:Cls):Value:=.agg #[.int .i64 c.at_,.int .i64 c.parent,.int .i64 c.size,.int .i64 c.table,.int .i64 c.prev]
def readV (r:Cls × Bool):Ending:=.returned (.tuple #[r.1.val,.bool r.2])
theorem class_read (w:World) (b bb:Nat) (m:Mem) (a:Int) (h:RMem w b bb m) (ha0 : -9223372036854775808≤a) (ha1:a≤9223372036854775807) :
 Calls Tryz.prog 177 #[.pointer (some ⟨b,0,none⟩),.int .i64 a] w fun e w'=>e=readV (Class.read m a)∧Keeps (fun _=>False) w w':=by
 have H:=h_ h;have hle:=h.le;clear h
 have HD:Hid (Class.read m a=if (m.cell a).2≠0∨(m.cell (a+8)).2≠0∨(m.cell (a+16)).2≠0∨(m.cell (a+24)).2≠0∨(m.cell (a+32)).2≠0 then (⟨0,0,0,0,0⟩,false)
  else (⟨a,(m.cell (a+8)).1,(m.cell (a+16)).1,(m.cell (a+24)).1,(m.cell (a+32)).1⟩,decide ((m.cell a).1=357694784579))):=rfl
 generalize Class.read m a=r at HD ⊢
 have hz:(m.cell a).2=0→0≤a∧a≤4194304:=by
  intro hz;unfold Mem.cell at hz;split at hz
  · rename_i h3
    rw [Mem.at_zero] at h3;omega
  · rename_i h3;exact absurd hz h3
 have h0:=h_ fun w H=>mem_cell w b bb m a H
 have h1:=h_ fun w H=>mem_cell w b bb m (a+8) H
 have h2:=h_ fun w H=>mem_cell w b bb m (a+16) H
 have h3:=h_ fun w H=>mem_cell w b bb m (a+24) H
 have h4:=h_ fun w H=>mem_cell w b bb m (a+32) H
 generalize m.cell a=q0 at h0 HD hz;generalize m.cell (a+8)=q1 at h1 HD;generalize m.cell (a+16)=q2 at h2 HD;generalize m.cell (a+24)=q3 at h3 HD;generalize m.cell (a+32)=q4 at h4 HD;obtain ⟨v0,e0⟩:=q0;obtain ⟨v1,e1⟩:=q1;obtain ⟨v2,e2⟩:=q2;obtain ⟨v3,e3⟩:=q3;obtain ⟨v4,e4⟩:=q4;simp only at HD hz h0 h1 h2 h3 h4
 have HZ:=h_ hz;clear hz
 go_enter Tryz.func177,Tryz.ntmps177
 go_wp2_with fail;refine wp_loop_rounds 6 ?_;rw [rounds_succ];go_wp2_with fail;refine (h0.out _ (by exact (H.out.allocd _).allocd _)).mono ?_
 rintro e w1 ⟨rfl,rfl⟩;by_cases c0:e0=0
 · have c0':(e0 != 0)=false:=by simp [c0]
   have C0:=h_ c0;obtain ⟨z1,z2⟩:=HZ.out c0;clear c0;go_wp2_with fail;rw [rounds_succ];go_wp2_with fail;refine (h1.out _ (by exact (H.out.allocd _).allocd _)).mono ?_
   rintro e w1 ⟨rfl,rfl⟩;by_cases c1:e1=0
   · have c1':(e1 != 0)=false:=by simp [c1]
     have C1:=h_ c1;clear c1;go_wp2_with fail;rw [rounds_succ];go_wp2_with fail;refine (h2.out _ (by exact (H.out.allocd _).allocd _)).mono ?_
     rintro e w1 ⟨rfl,rfl⟩;by_cases c2:e2=0
     · have c2':(e2 != 0)=false:=by simp [c2]
       have C2:=h_ c2;clear c2;go_wp2_with fail;rw [rounds_succ];go_wp2_with fail;refine (h3.out _ (by exact (H.out.allocd _).allocd _)).mono ?_
       rintro e w1 ⟨rfl,rfl⟩;by_cases c3:e3=0
       · have c3':(e3 != 0)=false:=by simp [c3]
         have C3:=h_ c3;clear c3;go_wp2_with fail;rw [rounds_succ];go_wp2_with fail;refine (h4.out _ (by exact (H.out.allocd _).allocd _)).mono ?_
         rintro e w1 ⟨rfl,rfl⟩;by_cases c4:e4=0
         · have c4':(e4 != 0)=false:=by simp [c4]
           have C4:=h_ c4;clear c4;go_wp2_with fail;rw [rounds_succ];go_wp2_with fail;have A0:((w.alloc (.cells #[.int .i64 0,.int .i64 0,.int .i64 0,.int .i64 0,.int .i64 0] 214)).alloc (.cells #[.int .i64 v0,.int .i64 v1,.int .i64 v2,.int .i64 v3,.int .i64 v4] 345)).heap[w.heap.size]?=some (.cells #[.int .i64 0,.int .i64 0,.int .i64 0,.int .i64 0,.int .i64 0] 214 (0,0)):=(halloc_old _ _ (by simp)).trans (halloc_at _ _)
           have B0:((w.alloc (.cells #[.int .i64 0,.int .i64 0,.int .i64 0,.int .i64 0,.int .i64 0] 214)).alloc (.cells #[.int .i64 v0,.int .i64 v1,.int .i64 v2,.int .i64 v3,.int .i64 v4] 345)).heap[w.heap.size+1]?=some (.cells #[.int .i64 v0,.int .i64 v1,.int .i64 v2,.int .i64 v3,.int .i64 v4] 345 (0,0)):=by
            have:=halloc_at (w.alloc (.cells #[.int .i64 0,.int .i64 0,.int .i64 0,.int .i64 0,.int .i64 0] 214)) (.cells #[.int .i64 v0,.int .i64 v1,.int .i64 v2,.int .i64 v3,.int .i64 v4] 345);rw [World.size_alloc] at this;exact this
           have KK:=h_ ((ka_ w (.cells #[.int .i64 0,.int .i64 0,.int .i64 0,.int .i64 0,.int .i64 0] 214)).trans (ka_ _ (.cells #[.int .i64 v0,.int .i64 v1,.int .i64 v2,.int .i64 v3,.int .i64 v4] 345)));generalize (w.alloc (.cells #[.int .i64 0,.int .i64 0,.int .i64 0,.int .i64 0,.int .i64 0] 214)).alloc (.cells #[.int .i64 v0,.int .i64 v1,.int .i64 v2,.int .i64 v3,.int .i64 v4] 345)=wv at A0 B0 KK ⊢;have a0:=cell_of (i:=0) A0 rfl;have a1:=cell_of (i:=1) A0 rfl;have a2:=cell_of (i:=2) A0 rfl;have a3:=cell_of (i:=3) A0 rfl;have a4:=cell_of (i:=4) A0 rfl;have fa:=fun i=>free_of (i:=i) A0
           have fa0:=fa 0;have fa1:=fa 1;have fa2:=fa 2;have fa3:=fa 3;have fa4:=fa 4;have d0:=cell_of (i:=0) B0 rfl;have d1:=cell_of (i:=1) B0 rfl;have d2:=cell_of (i:=2) B0 rfl;have d3:=cell_of (i:=3) B0 rfl;have d4:=cell_of (i:=4) B0 rfl;have hB2:=hset_same (i:=4) (hset_same (i:=3) (hset_same (i:=2) (hset_same (i:=1) (hset_same (i:=0) A0 (.int .i64 a)) (.int .i64 v1)) (.int .i64 v2)) (.int .i64 v3)) (.int .i64 v4);have g0:=cell_of (i:=0) hB2 rfl;have g1:=cell_of (i:=1) hB2 rfl;have g2:=cell_of (i:=2) hB2 rfl;have g3:=cell_of (i:=3) hB2 rfl;have g4:=cell_of (i:=4) hB2 rfl;have KE:=h_ (((((KK.out.setNew ⟨w.heap.size,0,none⟩ (.int .i64 a) (Nat.le_refl _)).setNew ⟨w.heap.size,1,none⟩ (.int .i64 v1) (Nat.le_refl _)).setNew ⟨w.heap.size,2,none⟩ (.int .i64 v2) (Nat.le_refl _)).setNew ⟨w.heap.size,3,none⟩ (.int .i64 v3) (Nat.le_refl _)).setNew ⟨w.heap.size,4,none⟩ (.int .i64 v4) (Nat.le_refl _));clear fa A0 B0 hB2;have HDD:=HD;clear HD h0 h1 h2 h3 h4 HZ c0' c1' c2' c3' c4'
           go_region
           go_wp2_with fail;have HD:=HDD;have hr:=HD.out;rw [if_neg (by simp [C0.out,C1.out,C2.out,C3.out,C4.out])] at hr
           subst hr;exact bodyPost_ret (v:=.tuple #[.agg #[.int .i64 a,.int .i64 v1,.int .i64 v2,.int .i64 v3,.int .i64 v4],.bool (v0 == 357694784579)]) (by simp [results,Tryz.results177,go_sem,g0,g1,g2,g3,g4]) rfl ⟨rfl,KE.out.trans (Keeps.drew _ _)⟩
         · have c4':(e4 != 0)=true:=by simp [c4]
           have hr:=HD.out;rw [if_pos (by simp [c4])] at hr
           subst hr;clear HD c4;go_wp2_with fail;exact bodyPost_ret (v:=.tuple #[.agg #[.int .i64 0,.int .i64 0,.int .i64 0,.int .i64 0,.int .i64 0],.bool false]) (by simp [results,Tryz.results177,go_sem]) rfl ⟨rfl,(Keeps.alloc _ _ _).trans (Keeps.alloc _ _ _)⟩
       · have c3':(e3 != 0)=true:=by simp [c3]
         have hr:=HD.out;rw [if_pos (by simp [c3])] at hr
         subst hr;clear HD c3;go_wp2_with fail;exact bodyPost_ret (v:=.tuple #[.agg #[.int .i64 0,.int .i64 0,.int .i64 0,.int .i64 0,.int .i64 0],.bool false]) (by simp [results,Tryz.results177,go_sem]) rfl ⟨rfl,(Keeps.alloc _ _ _).trans (Keeps.alloc _ _ _)⟩
     · have c2':(e2 != 0)=true:=by simp [c2]
       have hr:=HD.out;rw [if_pos (by simp [c2])] at hr
       subst hr;clear HD c2;go_wp2_with fail;exact bodyPost_ret (v:=.tuple #[.agg #[.int .i64 0,.int .i64 0,.int .i64 0,.int .i64 0,.int .i64 0],.bool false]) (by simp [results,Tryz.results177,go_sem]) rfl ⟨rfl,(Keeps.alloc _ _ _).trans (Keeps.alloc _ _ _)⟩
   · have c1':(e1 != 0)=true:=by simp [c1]
     have hr:=HD.out;rw [if_pos (by simp [c1])] at hr
     subst hr;clear HD c1;go_wp2_with fail;exact bodyPost_ret (v:=.tuple #[.agg #[.int .i64 0,.int .i64 0,.int .i64 0,.int .i64 0,.int .i64 0],.bool false]) (by simp [results,Tryz.results177,go_sem]) rfl ⟨rfl,(Keeps.alloc _ _ _).trans (Keeps.alloc _ _ _)⟩
 · have c0':(e0 != 0)=true:=by simp [c0]
   have hr:=HD.out;rw [if_pos (by simp [c0])] at hr
   subst hr;clear HD c0;go_wp2_with fail;exact bodyPost_ret (v:=.tuple #[.agg #[.int .i64 0,.int .i64 0,.int .i64 0,.int .i64 0,.int .i64 0],.bool false]) (by simp [results,Tryz.results177,go_sem]) rfl ⟨rfl,(Keeps.alloc _ _ _).trans (Keeps.alloc _ _ _)⟩
def Cls.fld (c:Cls):Nat→Int
 | 0=>c.at_
 | 1=>c.parent
 | 2=>c.size
 | 3=>c.table
 | _=>c.prev
def Cls.cells (c:Cls):List Value:=[.int .i64 c.at_,.int .i64 c.parent,.int .i64 c.size,.int .i64 c.table,.int .i64 c.prev]
def clsV (L:List Cls):List Value:=L.flatMap Cls.cells
theorem clsV_len (L:List Cls):(clsV L).length=L.length*5:=by
 induction L with
 | nil=>rfl
 | cons c L ih=>simp [clsV,Cls.cells] at *;omega
theorem clsV_app (L M:List Cls):clsV (L++M)=clsV L++clsV M:=by simp [clsV]
theorem clsV_get (L:List Cls) (i f:Nat) (h:i<L.length) (hf:f<5):(clsV L)[i*5+f]?=some (.int .i64 (L[i].fld f)):=by
 induction L generalizing i with
 | nil=>simp at h
 | cons c L ih =>
  have e:clsV (c :: L)=c.cells++clsV L:=rfl;rw [e]
  cases i with
  | zero =>
   match f,hf with
   | 0,_=>rfl
   | 1,_=>rfl
   | 2,_=>rfl
   | 3,_=>rfl
   | 4,_=>rfl
  | succ i =>
   have:=ih i (by simpa using h)
   have hc:c.cells.length=5:=rfl;rw [List.getElem?_append_right (by rw [hc];omega),hc,show (i+1)*5+f-5=i*5+f by omega]
   exact this
theorem clsV_of {L:List Cls} {cur:List Value} (h:∀ i,(hi:i<L.length)→∀ f,f<5→cur[i*5+f]?=some (.int .i64 (L[i].fld f))):cur.take (L.length*5)=clsV L:=by
 apply List.ext_getElem?
 intro k;by_cases hk:k<L.length*5
 · rw [List.getElem?_take_of_lt hk]
   have e:k=k / 5*5+k % 5:=by omega
   have hi:k / 5<L.length:=by omega
   rw [e,h _ hi _ (Nat.mod_lt _ (by decide)),clsV_get L _ _ hi (Nat.mod_lt _ (by decide))]
 · rw [List.getElem?_eq_none (by simp;omega),List.getElem?_eq_none (by rw [clsV_len];omega)]
def mid (L:List Cls) (k p:Nat):Cls:=if p<k∨L.length≤p+k then L.getD (L.length-1-p) ⟨0,0,0,0,0⟩ else L.getD p ⟨0,0,0,0,0⟩
theorem rev_nil (w:World):Calls Tryz.prog 179 #[.slice none 0 0] w fun e w'=>e=.returned (.tuple #[])∧w=w':=by
 go_enter Tryz.func179,Tryz.ntmps179
 go_wp2
 refine wp_loop_rounds 1 ?_;rw [rounds_succ]
 go_wp2
 go_end0
 exact ⟨rfl,rfl⟩
def RevPost (g n c:Nat) (L:List Cls) (w:World) (e:Ending) (w':World):Prop :=
 e=.returned (.tuple #[])∧(∃ cur,w'.heap[g]?=some (.cells cur 214 (0,0))∧cur.size=c*5∧∀ p,p<n→∀ f,f<5→cur[p*5+f]?=some (.int .i64 ((mid L (n / 2) p).fld f)))∧Keeps (fun k=>k=g) w w'
theorem mid_step (L:List Cls) (k p:Nat) (hk:2*(k+1)≤L.length) (h1:p≠k) (h2:p+k+1≠L.length):mid L (k+1) p=mid L k p:=by
 unfold mid;by_cases h:p<k∨L.length≤p+k
 · rw [if_pos (by omega),if_pos h]
 · rw [if_neg (by omega),if_neg h]
theorem mid_at (L:List Cls) (k p:Nat) (hk:2*(k+1)≤L.length) (h:p=k∨p+k+1=L.length):mid L (k+1) p=L.getD (L.length-1-p) ⟨0,0,0,0,0⟩∧mid L k p=L.getD p ⟨0,0,0,0,0⟩:=by
 unfold mid;rw [if_pos (by omega),if_neg (by omega)]
 exact ⟨rfl,rfl⟩
theorem heap_drew (w:World):w.drew.heap=w.heap:=rfl
def set5 (w:World) (g o:Nat) (c:Cls):World :=
 ((((w.setCell ⟨g,o,none⟩ (.int .i64 c.at_)).setCell ⟨g,o+1,none⟩ (.int .i64 c.parent)).setCell ⟨g,o+2,none⟩ (.int .i64 c.size)).setCell ⟨g,o+3,none⟩ (.int .i64 c.table)).setCell ⟨g,o+4,none⟩ (.int .i64 c.prev)
def put5 (cur:Array Value) (o:Nat) (c:Cls):Array Value :=
 ((((cur.setIfInBounds o (.int .i64 c.at_)).setIfInBounds (o+1) (.int .i64 c.parent)).setIfInBounds (o+2) (.int .i64 c.size)).setIfInBounds (o+3) (.int .i64 c.table)).setIfInBounds (o+4) (.int .i64 c.prev)
theorem set5_heap {w:World} {g o:Nat} {cur:Array Value} {t:TypeId} (h:w.heap[g]?=some (.cells cur t (0,0))) (c:Cls):(set5 w g o c).heap[g]?=some (.cells (put5 cur o c) t (0,0)) :=
 hset_same (hset_same (hset_same (hset_same (hset_same h _) _) _) _) _
theorem set5_keeps (w:World) (g o:Nat) (c:Cls):Keeps (fun k=>k=g) w (set5 w g o c):=by
 have k:=fun (w:World) (i:Nat) (v:Value)=>Keeps.setCell (S:=fun k=>k=g) w ⟨g,i,none⟩ v (fun _=>rfl)
 unfold set5;exact ((((k _ _ _).trans (k _ _ _)).trans (k _ _ _)).trans (k _ _ _)).trans (k _ _ _)
theorem put5_size (cur:Array Value) (o:Nat) (c:Cls):(put5 cur o c).size=cur.size:=by simp [put5]
theorem put5_get (cur:Array Value) (p q:Nat) (c:Cls) (hp:p*5+5≤cur.size) (f:Nat) (hf:f<5):(put5 cur (p*5) c)[q*5+f]?=if q=p then some (.int .i64 (c.fld f)) else cur[q*5+f]?:=by
 unfold put5;simp only [Array.getElem?_setIfInBounds,Array.size_setIfInBounds]
 by_cases h:q=p
 · subst h
   rw [if_pos rfl]
   match f,hf with
   | 0,_=>simp [Cls.fld];omega
   | 1,_=>simp [Cls.fld];omega
   | 2,_=>simp [Cls.fld];omega
   | 3,_=>simp [Cls.fld];omega
   | 4,_=>simp [Cls.fld];omega
 · rw [if_neg h]
   rw [if_neg (by omega),if_neg (by omega),if_neg (by omega),if_neg (by omega),if_neg (by omega)]
theorem rev_some (w:World) (g n c:Nat) (cur:Array Value) (L:List Cls) (hg:w.heap[g]?=some (.cells cur 214 (0,0))) (hc:cur.size=c*5) (hn:n≤c) (hL:L.length=n) (hb:n≤10000000) (h1:1≤n)
 (hcur:∀ i,(hi:i<L.length)→∀ f,f<5→cur[i*5+f]?=some (.int .i64 (L[i].fld f))) :
 Calls Tryz.prog 179 #[.slice (some ⟨g,0,none⟩) n c] w (RevPost g n c L w):=by
 have Hcur:=h_ hcur;have HL:=h_ hL;have Hg:=h_ hg;have Hc:=h_ hc;clear hcur hL hg hc
 go_enter Tryz.func179,Tryz.ntmps179
 go_wp2_with fail
 go_loopw [2,3] (fun i j wr=>∃ (k l:Nat) (cur:Array Value),2*k≤n∧k+l+1=n∧i=.int .i64 k∧j=.int .i64 l∧wr.heap[g]?=some (.cells cur 214 (0,0))∧cur.size=c*5 ∧
  (∀ p,p<n→∀ f,f<5→cur[p*5+f]?=some (.int .i64 ((mid L k p).fld f)))∧Keeps (fun k=>k=g) w wr) (fun i _ _=>n-(intOf i).toNat)
 case atStart =>
  refine ⟨0,n-1,cur,by omega,by omega,rfl,by go_num,Hg.out,Hc.out,fun p hp f hf=>?_,Keeps.refl _ _⟩
  have hpL:p<L.length:=by rw [HL.out];exact hp
  rw [Hcur.out p hpL f hf];unfold mid;rw [if_neg (by omega),List.getD_eq_getElem?_getD,List.getElem?_eq_getElem hpL]
  rfl
 case round =>
  obtain ⟨k,l,cur,hk,hkl,rfl,rfl,hr,hs,hf,hw⟩:=hrel;have HW:=h_ hw;have HR:=h_ hr;have HS:=h_ hs;have HF:=h_ hf;by_cases hlt:k<l
  · have F:=fun f (h:f<5)=>cell_of hr (hf k (by omega) f h)
    have G:=fun f (h:f<5)=>cell_of hr (hf l (by omega) f h)
    obtain ⟨mk1,mk2⟩:=mid_at L k k (by rw [HL.out];omega) (.inl rfl)
    obtain ⟨ml1,ml2⟩:=mid_at L k l (by rw [HL.out];omega) (.inr (by rw [HL.out];omega))
    rw [show L.length-1-k=l by rw [HL.out];omega] at mk1
    rw [show L.length-1-l=k by rw [HL.out];omega] at ml1
    rw [mk2] at F;rw [ml2] at G;have hstep:=fun p h1 h2=>mid_step L k p (by rw [HL.out];omega) h1 h2
    generalize L.getD k ⟨0,0,0,0,0⟩=x at F mk1 ml1 mk2;generalize L.getD l ⟨0,0,0,0,0⟩=y at G mk1 ml1 ml2;have F0:=F 0 (by omega)
    have F1:=F 1 (by omega)
    have F2:=F 2 (by omega)
    have F3:=F 3 (by omega)
    have F4:=F 4 (by omega)
    have G0:=G 0 (by omega)
    have G1:=G 1 (by omega)
    have G2:=G 2 (by omega)
    have G3:=G 3 (by omega)
    have G4:=G 4 (by omega)
    simp only [Cls.fld,Nat.add_zero] at F0 F1 F2 F3 F4 G0 G1 G2 G3 G4
    have fr:=fun i=>free_of (i:=i) hr
    have M:Hid (∃ cur',(set5 (set5 wr g (k*5) y) g (l*5) x).drew.heap[g]?=some (.cells cur' 214 (0,0))∧cur'.size=c*5∧(∀ p,p<n→∀ f,f<5→cur'[p*5+f]?=some (.int .i64 ((mid L (k+1) p).fld f)))):=by
     refine ⟨_,by rw [heap_drew];exact set5_heap (set5_heap hr y) x,by rw [put5_size,put5_size];exact hs,fun p hp f hff=>?_⟩
     rw [put5_get _ l p x (by rw [put5_size,hs];omega) f hff,put5_get _ k p y (by rw [hs];omega) f hff]
     by_cases e1:p=l
     · rw [if_pos e1,e1,ml1]
     · rw [if_neg e1]
       by_cases e2:p=k
       · rw [if_pos e2,e2,mk1]
       · rw [if_neg e2,hf p hp f hff,hstep p e2 (by rw [HL.out];omega)]
    have KM:Hid (Keeps (fun k=>k=g) w (set5 (set5 wr g (k*5) y) g (l*5) x).drew):=(hw.trans ((set5_keeps wr g (k*5) y).trans (set5_keeps _ g (l*5) x))).trans (Keeps.drew _ _)
    clear F G mk1 mk2 ml1 ml2 hstep hr hs hf hw HR HS HF;unfold set5 at M KM;have hb1:(k:Int)<n:=by omega
    have hb2:(l:Int)<n:=by omega
    have hb3:(0:Int)≤k:=by omega
    have hb4:(0:Int)≤l:=by omega
    go_wp2_with fail
    go_region
    go_wp2_with fail
    go_roundw
    case rel =>
     obtain ⟨cur',q1,q2,q3⟩:=M.out;exact ⟨k+1,l-1,cur',by omega,by omega,by go_num,by go_num,q1,q2,q3,KM.out⟩
    case measure=>simp [intOf];omega
  · have hke:k=n / 2:=by omega
    have hge:(l:Int)≤k:=by omega
    go_wp2_with fail;go_end0
    exact ⟨rfl,⟨cur,HR.out,HS.out,by rw [← hke];exact HF.out⟩,HW.out⟩
theorem infoCls:(Tryz.prog.info? 214).map (fun i=>(i.zero,i.size,i.bytes))=some (some (.agg #[.int .i64 0,.int .i64 0,.int .i64 0,.int .i64 0,.int .i64 0]),5,40):=by kernel_rfl
def OwnCls (W w:World) (a:Option Addr) (c:Nat) (L:List Cls):Prop:=Own w 214 5 a L.length c (clsV L)∧∀ g,blk a=some g→W.heap.size≤g
def ClsPost (L:List Cls) (w:World) (e:Ending) (w':World):Prop :=
 ∃ a c,e=.returned (.slice a L.length c)∧OwnCls w w' a c L∧Keeps (fun _=>False) w w'
theorem OwnCls.keeps {W w w':World} {a:Option Addr} {c:Nat} {L:List Cls} (h:OwnCls W w a c L) {S:Nat→Prop} (k:Keeps S w w') (hs:∀ g,blk a=some g→¬ S g):OwnCls W w' a c L:=⟨h.1.keeps k hs,h.2⟩
theorem OwnCls.alloc {W w:World} {a:Option Addr} {c:Nat} {L:List Cls} (h:OwnCls W w a c L) (o:Obj):OwnCls W (w.alloc o) a c L:=h.keeps (ka_ _ _) (fun _ _=>id)
theorem OwnCls.more {W w w':World} {a a':Option Addr} {c c':Nat} {L:List Cls} (h:OwnCls W w a c L) (x:Cls) (o:Own w' 214 5 a' (L.length+1) c' (clsV L++x.cells)) (k:Nat) (l:blk a'=blk a∨blk a'=some k) (hk:W.heap.size≤k):OwnCls W w' a' c' (L++[x]):=by
 refine ⟨?_,?_⟩
 · rw [clsV_app,List.length_append]
   have:clsV [x]=x.cells:=by simp [clsV]
   rw [this];exact o
 · intro g hg
   rcases l with e | e <;> rw [e] at hg
   · exact h.2 g hg
   · cases hg;exact hk
theorem cls_news (w:World) (x:Cls):∀ j u,x.cells[j]?=some u→(w.alloc (.cells #[.int .i64 x.at_,.int .i64 x.parent,.int .i64 x.size,.int .i64 x.table,.int .i64 x.prev] 214)).cell? ((⟨w.heap.size,0,none⟩:Addr).add j)=some u:=by
 intro j u hu;rw [Addr.add_lit,Nat.zero_add];refine cell_of (halloc_at _ _) ?_;simpa [Cls.cells] using hu
theorem cls_one (x:Cls):∀ u ∈ x.cells,u.oneCell'=true:=by
 intro u hu;simp [Cls.cells] at hu
 rcases hu with rfl | rfl | rfl | rfl | rfl <;> rfl
theorem mid_all (L:List Cls) (p:Nat) (hp:p<L.length):mid L (L.length / 2) p=L.reverse[p]'(by simpa using hp):=by
 rw [List.getElem_reverse];unfold mid;split
 · rw [List.getD_eq_getElem?_getD,List.getElem?_eq_getElem (by omega)];rfl
 · have e:p=L.length-1-p:=by omega
   rw [List.getD_eq_getElem?_getD,List.getElem?_eq_getElem hp,Option.getD_some];congr 1
theorem rev_cls (W w:World) (a:Option Addr) (c:Nat) (L:List Cls) (h:OwnCls W w a c L) (hne:L=[]→a=none) (hb:L.length≤10000000) :
 Calls Tryz.prog 179 #[.slice a L.length c] w fun e w'=>e=.returned (.tuple #[])∧OwnCls W w' a c L.reverse∧Keeps (fun k=>blk a=some k) w w':=by
 rcases h.1.form with ⟨rfl,hn,rfl,hx⟩ | ⟨g,cur,rfl,hh,hnc,hcm,hcs,htk,hxl⟩
 · obtain rfl:L=[]:=List.eq_nil_of_length_eq_zero hn
   refine (rev_nil w).mono ?_;rintro e w1 ⟨rfl,rfl⟩;exact ⟨rfl,h,Keeps.refl _ _⟩
 · have h1:1≤L.length:=by
    cases L with
    | nil=>cases hne rfl
    | cons _ _=>simp
   refine (rev_some w g L.length c cur L hh hcs hnc rfl hb h1 fun i hi f hf=>?_).mono ?_
   · rw [← Array.getElem?_toList]
     have:=clsV_get L i f hi hf;rw [← htk,List.getElem?_take_of_lt (by omega)] at this
     exact this
   · rintro e w1 ⟨rfl,⟨cur',q1,q2,q3⟩,k⟩
     refine ⟨rfl,⟨⟨by rw [clsV_len],.inr ⟨g,c,cur',by simp,by simp,q1,by simpa using hnc,hcm,q2,?_⟩⟩,h.2⟩,k.mono fun k _ hk=>by rw [hk];rfl⟩
     have:=clsV_of (L:=L.reverse) (cur:=cur'.toList) fun i hi f hf=>?_
     · exact this
     · rw [List.length_reverse] at hi
       rw [Array.getElem?_toList,q3 i hi f hf,mid_all L i hi]
theorem class_all (w:World) (b bb:Nat) (m:Mem) (root:Int) (h:RMem w b bb m) :
 Calls Tryz.prog 105 #[.pointer (some ⟨b,0,none⟩),.int .i64 root] w (ClsPost (Class.all m root) w):=by
 have H:=h_ h;have hle:=h.le;have hlen:=Class.all_len m root;clear h;have HD:Hid (Class.all m root=if (m.cell root).2=0 then (Class.walk m (m.cell root).1 m.size).reverse else []):=rfl
 generalize Class.all m root=r at HD hlen ⊢;have hc:=h_ fun w H=>mem_cell w b bb m root H
 have hcb:=m.cell_bd root;generalize m.cell root=q at hc HD hcb;obtain ⟨a0,e0⟩:=q;simp only at HD hcb hc
 go_enter Tryz.func105,Tryz.ntmps105
 go_wp2_with fail;refine (hc.out _ H.out).mono ?_;rintro e w1 ⟨rfl,rfl⟩;go_wp2_with fail;refine (mem_size _ _ _ _ H.out).mono ?_;rintro e w1 ⟨rfl,rfl⟩;by_cases he:e0=0
 · have hr:=HD.out
   rw [if_pos he] at hr;have he':(e0 == 0)=true:=by simp [he]
   have HR:=h_ hr;clear HD hr he;go_wp2_with fail
   go_loopw [5,6,8] (fun ov av lv wr=>∃ (L:List Cls) (a:Option Addr) (c:Nat) (at_ last:Int),ov=.slice a L.length c∧av=.int .i64 at_∧lv=.int .i64 last∧OwnCls w wr a c L∧RMem wr b bb m∧Keeps (fun _=>False) w wr ∧
    L++Class.walk m at_ last=Class.walk m a0 m.size∧(-9223372036854775808≤at_∧at_≤9223372036854775807)∧(L=[]→a=none))
    (fun _ _ lv _=>(intOf lv).toNat)
   case atStart=>exact ⟨[],none,0,a0,m.size,rfl,rfl,rfl,⟨Own.nil _ _ _,by simp [blk]⟩,H.out,Keeps.refl _ _,rfl,hcb,fun _=>rfl⟩
   case round =>
    obtain ⟨L,a,c,at_,last,rfl,rfl,rfl,ho,hm,hk,hL,⟨hb0,hb1⟩,hne⟩:=hrel;have HO:=h_ ho;have HM:=h_ hm;have HK:=h_ hk
    have hLlen:L.length≤m.size:=by
     have h1:=Class.walk_len m a0 m.size;rw [← hL,List.length_append] at h1;omega
    have HL:=h_ hL;clear ho hm hk hL;by_cases hlt:0<at_∧at_<last
    · obtain ⟨g1,g2⟩:=hlt
      have hrd:=h_ (class_read wr b bb m at_ HM.out hb0 hb1);have hst:=Class.walk_step m at_ last ⟨g1,g2⟩;have hbad:=Class.walk_bad m at_ last
      have hpb : -9223372036854775808≤(Class.read m at_).1.prev∧(Class.read m at_).1.prev≤9223372036854775807:=by
       unfold Class.read;split
       · simp
       · exact m.cell_bd _
      generalize Class.read m at_=x at hrd hst hbad hpb;obtain ⟨x,ok⟩:=x;simp only at hst hbad hpb
      have HS:=h_ hst;have HB:=h_ hbad;clear hst hbad;go_wp2_with fail;refine hrd.out.mono ?_;rintro e w2 ⟨rfl,k2⟩;unfold readV Cls.val;have O2:=h_ ((HO.out.keeps k2 (fun _ _=>id)).alloc (.cells #[.int .i64 x.at_,.int .i64 x.parent,.int .i64 x.size,.int .i64 x.table,.int .i64 x.prev] 214))
      have M2:=h_ ((HM.out.keeps k2 id id).allocd (.cells #[.int .i64 x.at_,.int .i64 x.parent,.int .i64 x.size,.int .i64 x.table,.int .i64 x.prev] 214));have K2:=h_ ((HK.out.trans k2).trans (ka_ _ (.cells #[.int .i64 x.at_,.int .i64 x.parent,.int .i64 x.size,.int .i64 x.table,.int .i64 x.prev] 214)));have hlt:∀ g,blk a=some g→g<w2.heap.size:=fun g hg=>(HO.out.keeps k2 (fun _ _=>id)).1.lt hg
      have hge:w.heap.size≤w2.heap.size:=(HK.out.trans k2).size;clear k2 HO HM HK
      cases ok with
      | false =>
       go_wp2_with fail;refine (rev_cls _ _ a c L O2.out hne (by omega)).mono ?_
       rintro e w3 ⟨rfl,o3,k3⟩;go_wp2_with fail;go_ret
       have hw:L=Class.walk m a0 m.size:=by
        have:=HL.out;rw [HB.out trivial,List.append_nil] at this;exact this
       refine ⟨a,c,?_,?_,?_⟩
       · rw [HR.out,← hw,List.length_reverse];rfl
       · rw [HR.out,← hw];exact o3
       · exact K2.out.trans' k3 (fun i hi e=>absurd (o3.2 i e) (by omega))
      | true =>
       go_wp2_with (first
        | (at_builtin;refine wpList_app rfl _ _ 211 rfl 214 _ 5 40 Tryz.underlying211 infoCls rfl (by decide) a L.length c (clsV L) rfl (O2.out.alloc _).1 ⟨w2.heap.size+1,0,none⟩ 1 1 x.cells rfl rfl ?c1 (cls_one x) ?c3 ?c4 ?_))
       case c1 =>
        have:=cls_news (w2.alloc (.cells #[.int .i64 x.at_,.int .i64 x.parent,.int .i64 x.size,.int .i64 x.table,.int .i64 x.prev] 214)) x;rw [World.size_alloc] at this;exact this
       case c3=>unfold maxLen;omega
       case c4=>omega
       intro a' c' w3 o3 k3 l3;have A0:((w2.alloc (.cells #[.int .i64 x.at_,.int .i64 x.parent,.int .i64 x.size,.int .i64 x.table,.int .i64 x.prev] 214)).alloc (.cells #[.int .i64 x.at_,.int .i64 x.parent,.int .i64 x.size,.int .i64 x.table,.int .i64 x.prev] 214)).heap[w2.heap.size]?=some (.cells #[.int .i64 x.at_,.int .i64 x.parent,.int .i64 x.size,.int .i64 x.table,.int .i64 x.prev] 214 (0,0)):=(halloc_old _ _ (by simp)).trans (halloc_at _ _)
       have c4:=k3.cell (cell_of (i:=4) A0 rfl) (fun e=>absurd (hlt _ e) (Nat.lt_irrefl _))
       have KA:=(K2.out.trans (ka_ _ (.cells #[.int .i64 x.at_,.int .i64 x.parent,.int .i64 x.size,.int .i64 x.table,.int .i64 x.prev] 214))).trans' k3 (fun i hi e=>absurd (O2.out.2 i e) (by omega))
       have O3:=h_ (O2.out.more x o3 _ l3 (by omega))
       have KK:=h_ KA
       have hL':(L++[x])++Class.walk m x.prev at_=Class.walk m a0 m.size:=by
        have:=HL.out;rw [HS.out trivial] at this;simpa using this
       have HL':=h_ hL';clear k3 o3 l3 KA hL' A0;go_wp2_with fail
       go_quiet (fail)
       go_wp2_with fail
       go_roundw
       case rel =>
        refine ⟨L++[x],a',c',x.prev,at_,?_,rfl,rfl,O3.out.keeps (Keeps.drewN (fun _=>False) _ _) (fun _ _=>id),(H.out.keeps KK.out id id).drewN _,KK.out.trans (Keeps.drewN _ _ _),HL'.out,hpb,by simp⟩
        rw [List.length_append];rfl
       case measure=>simp [intOf];omega
    · have hw:L=Class.walk m a0 m.size:=by
       have:=HL.out;rw [Class.walk_end m _ _ hlt,List.append_nil] at this;exact this
      have HW:=h_ hw;by_cases hp:0<at_
      · have hq:¬ at_<last:=by omega
        clear hlt hw;go_wp2_with fail;refine (rev_cls _ _ a c L HO.out hne (by omega)).mono ?_
        rintro e w3 ⟨rfl,o3,k3⟩;go_wp2_with fail;go_ret
        refine ⟨a,c,?_,?_,?_⟩
        · rw [HR.out,← HW.out,List.length_reverse];rfl
        · rw [HR.out,← HW.out];exact o3
        · exact HK.out.trans' k3 (fun i hi e=>absurd (o3.2 i e) (by omega))
      · clear hlt hw
        go_wp2_with fail;refine (rev_cls _ _ a c L HO.out hne (by omega)).mono ?_
        rintro e w3 ⟨rfl,o3,k3⟩;go_wp2_with fail;go_ret
        refine ⟨a,c,?_,?_,?_⟩
        · rw [HR.out,← HW.out,List.length_reverse];rfl
        · rw [HR.out,← HW.out];exact o3
        · exact HK.out.trans' k3 (fun i hi e=>absurd (o3.2 i e) (by omega))
 · have hr:=HD.out
   rw [if_neg he] at hr;have he':(e0 == 0)=false:=by simp [he]
   have HR:=h_ hr;clear HD hr he;go_wp2_with fail;refine wp_loop_rounds 1 ?_;rw [rounds_succ];go_wp2_with fail;refine (rev_nil _).mono ?_;rintro e w1 ⟨rfl,rfl⟩;go_wp2_with fail;go_ret
   exact ⟨none,0,by rw [HR.out];rfl,by rw [HR.out];exact ⟨Own.nil _ _ _,by simp [blk]⟩,Keeps.refl _ _⟩
theorem OwnCls.get {W w:World} {a:Option Addr} {c:Nat} {L:List Cls} (h:OwnCls W w a c L) {k:Nat} (hk:k<L.length) :
 ∃ g,a=some ⟨g,0,none⟩∧L.length≤c∧∀ f,f<5→w.cell? ⟨g,k*5+f,none⟩=some (.int .i64 (L[k].fld f)):=by
 rcases h.1.form with ⟨rfl,hn,rfl,hx⟩ | ⟨g,cur,rfl,hh,hnc,hcm,hcs,htk,hxl⟩
 · omega
 · exact ⟨g,rfl,hnc,fun f hf=>h.1.cell (clsV_get L k f hk hf)⟩
theorem idx_func (W w:World) (a:Option Addr) (c:Nat) (L:List Cls) (k:Nat) (cap:Array Value) (p:Cls→Bool) (h:OwnCls W w a c L) (hb:L.length≤10000000)
 (hen:∀ (args:Array Value) (w:World),(callFunc k args).run Tryz.prog w=.ok (.enter k args) w)
 (hf:∀ w',Keeps (fun _=>False) w w'→∀ x ∈ L,Calls Tryz.prog k (#[x.val]++cap) w' fun e w''=>e=.returned (.bool (p x))∧Keeps (fun _=>False) w' w'') :
 Calls Tryz.prog 393 #[.slice a L.length c,.func (.func k) #[] cap] w fun e w'=>(∃ i,e=.returned (.int .i64 i)∧decide (0≤i)=L.any p)∧Keeps (fun _=>False) w w':=by
 have HO:=h_ h;have HF:=h_ hf;clear h hf
 go_enter Tryz.func393,Tryz.ntmps393
 go_wp2_with fail
 go_loopw [8] (fun iv wr=>∃ (j:Nat),iv=.int .i64 j∧j≤L.length∧(∀ (i:Nat) (hi:i<L.length),i<j→p L[i]=false)∧Keeps (fun _=>False) w wr)
  (fun iv _=>L.length-(intOf iv).toNat)
 case atStart=>exact ⟨0,rfl,by omega,fun i hi h=>by omega,Keeps.refl _ _⟩
 case round =>
  obtain ⟨j,rfl,hj,hp,hk⟩:=hrel;have HP:=h_ hp;have HK:=h_ hk;clear hp hk;by_cases hlt:j<L.length
  · have hO:=HO.out.keeps HK.out (fun _ _=>id)
    obtain ⟨g,rfl,hnc,F⟩:=hO.get hlt;have F0:=F 0 (by omega)
    have F1:=F 1 (by omega)
    have F2:=F 2 (by omega)
    have F3:=F 3 (by omega)
    have F4:=F 4 (by omega)
    have hcl:=HF.out wr HK.out L[j] (List.getElem_mem hlt);obtain ⟨r,hr⟩:∃ r,p L[j]=r:=⟨_,rfl⟩;rw [hr] at hcl;have hpj':=h_ hr;clear hr;generalize L[j]=x at F0 F1 F2 F3 F4 hcl;unfold Cls.val at hcl;simp only [Cls.fld,Nat.add_zero] at F0 F1 F2 F3 F4
    have HC:=h_ hcl;clear hcl F hO;go_wp2_with fail;refine HC.out.mono ?_;rintro e w2 ⟨rfl,k2⟩;have K2:=h_ (HK.out.trans k2);clear k2
    cases r with
    | true =>
     go_wp2_with fail;go_ret
     refine ⟨⟨j,rfl,?_⟩,K2.out⟩;have:L.any p=true:=List.any_eq_true.2 ⟨L[j],List.getElem_mem hlt,hpj'.out⟩;rw [this];simp
    | false =>
     go_wp2_with fail
     go_roundw
     case rel =>
      refine ⟨j+1,by go_num,by omega,fun i hi hij=>?_,K2.out⟩
      by_cases e:i=j
      · subst e;exact hpj'.out
      · exact HP.out i hi (by omega)
     case measure=>simp [intOf];omega
  · have hge:j=L.length:=by omega
    subst hge
    have hall:L.any p=false:=by
     rw [List.any_eq_false];intro x hx;obtain ⟨i,hi,rfl⟩:=List.getElem_of_mem hx;rw [HP.out i hi hi];simp
    have HA:=h_ hall;clear hall;go_wp2_with fail;go_ret
    exact ⟨⟨-1,rfl,by rw [HA.out];rfl⟩,HK.out⟩
theorem cont_func (W w:World) (a:Option Addr) (c:Nat) (L:List Cls) (k:Nat) (cap:Array Value) (p:Cls→Bool) (h:OwnCls W w a c L) (hb:L.length≤10000000)
 (hen:∀ (args:Array Value) (w:World),(callFunc k args).run Tryz.prog w=.ok (.enter k args) w)
 (hf:∀ w',Keeps (fun _=>False) w w'→∀ x ∈ L,Calls Tryz.prog k (#[x.val]++cap) w' fun e w''=>e=.returned (.bool (p x))∧Keeps (fun _=>False) w' w'') :
 Calls Tryz.prog 280 #[.slice a L.length c,.func (.func k) #[] cap] w fun e w'=>e=.returned (.bool (L.any p))∧Keeps (fun _=>False) w w':=by
 have HI:=h_ (idx_func W w a c L k cap p h hb hen hf);clear h hen hf;generalize L.any p=r at HI ⊢
 go_enter Tryz.func280,Tryz.ntmps280
 go_wp2_with fail;refine HI.out.mono ?_;rintro e w1 ⟨⟨i,rfl,hi⟩,k1⟩;have K1:=h_ k1;have HD:=h_ hi;clear k1 hi;go_wp2_with fail;go_ret
 exact ⟨by rw [← HD.out];rfl,K1.out⟩
theorem app1 (x y:Value):(#[x]++#[y]:Array Value)=#[x,y]:=rfl
theorem class_is1 (w:World) (x:Cls) (a:Int) (x0:Nat) (c0:w.cell? ⟨x0,0,none⟩=some (.int .i64 a)) :
 Calls Tryz.prog 281 #[x.val,.pointer (some ⟨x0,0,none⟩)] w fun e w'=>e=.returned (.bool (decide (x.at_=a)))∧Keeps (fun _=>False) w w':=by
 unfold Cls.val;have hb:=World.block_lt_of_cell? _ _ c0
 go_enter Tryz.func281,Tryz.ntmps281
 go_wp2_with fail;go_ret
 exact ⟨rfl,Keeps.alloc _ _ _⟩
theorem class_is (w:World) (b bb:Nat) (m:Mem) (root a:Int) (h:RMem w b bb m) :
 Calls Tryz.prog 178 #[.pointer (some ⟨b,0,none⟩),.int .i64 root,.int .i64 a] w fun e w'=>e=.returned (.bool (Class.is m root a))∧Keeps (fun _=>False) w w':=by
 have hmf:∀ (fn:Fn) (first cap:Array Value) (w:World),(Instr.makeFunc fn first cap).run Tryz.prog w=.ok (.func fn first cap) w:=fun _ _ _ _=>rfl
 have hA:=h_ (class_all (w.alloc (.cells #[.int .i64 a] 2)) b bb m root (h.allocd _));have hlen:=Class.all_len m root;have hle:=h.le;have HD:Hid (Class.is m root a=(Class.all m root).any fun c=>decide (c.at_=a)):=rfl
 generalize Class.is m root a=r at HD ⊢;generalize Class.all m root=L at hA HD hlen;have c0:=World.cell?_alloc_new w #[.int .i64 a] 2 0;have C0:=h_ c0;clear h c0
 go_enter Tryz.func178,Tryz.ntmps178
 go_wp2_with fail;refine hA.out.mono ?_;rintro e w1 ⟨s,c,rfl,ho,hk⟩
 have HC:=h_ (cont_func w w1 s c L 281 #[.pointer (some ⟨w.heap.size,0,none⟩)] (fun c=>decide (c.at_=a)) ⟨ho.1,fun g hg=>Nat.le_trans (by simp) (ho.2 g hg)⟩ (by omega) Tryz.call281 (fun w' k' x _=>by
  rw [app1]
  exact class_is1 w' x a w.heap.size ((hk.trans k').cell C0.out id)))
 have HK:=h_ ((ka_ w (.cells #[.int .i64 a] 2)).trans hk);clear ho hk;go_wp2_with fail;refine HC.out.mono ?_;rintro e w2 ⟨rfl,k2⟩;have K2:=h_ (HK.out.trans k2);clear k2;go_wp2_with fail;go_ret
 exact ⟨by rw [HD.out];rfl,K2.out⟩
theorem class_lookup (w:World) (b bb:Nat) (m:Mem) (a sel:Int) (h:RMem w b bb m) (ha0 : -9223372036854775808≤a) (ha1:a≤9223372036854775807) :
 Calls Tryz.prog 275 #[.pointer (some ⟨b,0,none⟩),.int .i64 a,.int .i64 sel] w fun e w'=>e=getV (Class.lookup m a sel)∧Keeps (fun _=>False) w w':=by
 have H:=h_ h;clear h;have HP:=h_ fun w H=>class_read w b bb m a H ha0 ha1
 have HD:Hid (Class.lookup m a sel=if (Class.read m a).2=false then (⟨0,0,0⟩,0,false) else Tab.get m (Class.read m a).1.table sel):=rfl
 generalize Class.lookup m a sel=r at HD ⊢;generalize Class.read m a=q at HP HD;obtain ⟨x,ok⟩:=q;simp only at HD
 unfold readV Cls.val at HP
 cases ok with
 | false =>
  have hr:=HD.out;rw [if_pos rfl] at hr;subst hr;clear HD
  go_enter Tryz.func275,Tryz.ntmps275
  go_wp2_with fail;refine (HP.out _ (by exact H.out.allocd _)).mono ?_
  rintro e w1 ⟨rfl,k1⟩;have hB:w1.heap[w.heap.size]?=some (.cells #[.int .i64 0,.int .i64 0,.int .i64 0] 279 (0,0)):=k1.heap (halloc_at _ _) id;have hlt:w.heap.size<w1.heap.size:=lt_of_heap hB;have c0:=cell_of (i:=0) hB rfl;have c1:=cell_of (i:=1) hB rfl;have c2:=cell_of (i:=2) hB rfl;have f0:=free_of (i:=0) hB;have f1:=free_of (i:=1) hB;have f2:=free_of (i:=2) hB;have hB2:=hset3 hB (.int .i64 0) (.int .i64 0) (.int .i64 0);have d0:=cell_of (i:=0) hB2 rfl;have d1:=cell_of (i:=1) hB2 rfl;have d2:=cell_of (i:=2) hB2 rfl;have HK:=h_ ((((((ka_ w _).trans k1).setNew ⟨w.heap.size,0,none⟩ (.int .i64 0) (Nat.le_refl _)).setNew ⟨w.heap.size,1,none⟩ (.int .i64 0) (Nat.le_refl _)).setNew ⟨w.heap.size,2,none⟩ (.int .i64 0) (Nat.le_refl _)).trans (ka_ _ (.cells #[.int .i64 x.at_,.int .i64 x.parent,.int .i64 x.size,.int .i64 x.table,.int .i64 x.prev] 214)));clear hB hB2 k1;go_wp2_with fail;exact bodyPost_ret (v:=.tuple #[.agg #[.int .i64 0,.int .i64 0,.int .i64 0],.int .i64 0,.bool false]) (by simp [results,Tryz.results275,go_sem,d0,d1,d2,hlt]) rfl ⟨rfl,HK.out⟩
 | true =>
  have hr:=HD.out;rw [if_neg (by simp)] at hr
  have hg:=h_ fun w H=>tab_get w b bb m x.table sel H
  generalize Tab.get m x.table sel=q at hr hg;subst hr;obtain ⟨⟨y1,y2,y3⟩,n,is⟩:=r;clear HD;unfold getV Ent.val at hg;simp only at hg
  go_enter Tryz.func275,Tryz.ntmps275
  go_wp2_with fail;refine (HP.out _ (by exact H.out.allocd _)).mono ?_
  rintro e w1 ⟨rfl,k1⟩;have hB0:w1.heap[w.heap.size]?=some (.cells #[.int .i64 0,.int .i64 0,.int .i64 0] 279 (0,0)):=k1.heap (halloc_at _ _) id;have K1:=(ka_ w (.cells #[.int .i64 0,.int .i64 0,.int .i64 0] 279)).trans k1;have hB1:=(halloc_old w1 (.cells #[.int .i64 x.at_,.int .i64 x.parent,.int .i64 x.size,.int .i64 x.table,.int .i64 x.prev] 214) (lt_of_heap hB0)).trans hB0;have K2:=K1.trans (ka_ w1 (.cells #[.int .i64 x.at_,.int .i64 x.parent,.int .i64 x.size,.int .i64 x.table,.int .i64 x.prev] 214));have HB1:=h_ hB1;have HK2:=h_ K2;clear hB0 hB1 K1 K2 k1;go_wp2_with fail;refine (hg.out _ (by exact H.out.keeps HK2.out id id)).mono ?_
  rintro e w2 ⟨rfl,k2⟩;have hB:=k2.heap HB1.out id;have HK0:=HK2.out.trans k2;have c0:=cell_of (i:=0) hB rfl;have c1:=cell_of (i:=1) hB rfl;have c2:=cell_of (i:=2) hB rfl;have f0:=free_of (i:=0) hB;have f1:=free_of (i:=1) hB;have f2:=free_of (i:=2) hB;have hB2:=hset3 hB (.int .i64 y1) (.int .i64 y2) (.int .i64 y3);have d0:=cell_of (i:=0) hB2 rfl;have d1:=cell_of (i:=1) hB2 rfl;have d2:=cell_of (i:=2) hB2 rfl;have HK:=h_ (((HK0.setNew ⟨w.heap.size,0,none⟩ (.int .i64 y1) (Nat.le_refl _)).setNew ⟨w.heap.size,1,none⟩ (.int .i64 y2) (Nat.le_refl _)).setNew ⟨w.heap.size,2,none⟩ (.int .i64 y3) (Nat.le_refl _));clear hB hB2 HK0 k2;go_wp2_with fail;exact bodyPost_ret (v:=.tuple #[.agg #[.int .i64 y1,.int .i64 y2,.int .i64 y3],.int .i64 n,.bool is]) (by simp [results,Tryz.results275,go_sem,d0,d1,d2]) rfl ⟨rfl,HK.out⟩
end Go.Proofs.Shed
