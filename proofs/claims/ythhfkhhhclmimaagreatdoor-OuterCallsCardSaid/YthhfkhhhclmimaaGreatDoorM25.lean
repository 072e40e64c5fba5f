/- Of CallsG: WHeadB, WHeadC, WHeadD, WHeadE, MacS, WVmA. No condition. -/
import Derived.Test.YthhfkhhhclmimaaGreatDoorM24
import Derived.Test.YthhfkhhhclmimaaGreatDoorM11
set_option linter.unusedVariables false
set_option linter.unusedSimpArgs false
set_option maxRecDepth 10000
set_option maxHeartbeats 4000000
namespace Go.Proofs.Shed
open Go Go.RowKit Go.Proofs.K
def Wd.val (d:Wd):Value:=.agg #[.int .i64 d.at_,.int .i64 d.xt,.int .i64 d.flags,.string ⟨d.name.toArray⟩]
def readWdV:Option (Wd × Int)→Value
 | none=>.tuple #[Wd.none.val,.int .i64 0,.bool false]
 | some (d,l)=>.tuple #[d.val,.int .i64 l,.bool true]
theorem set4 {w:World} {g:Nat} {a0 a1 a2 a3:Value} {t:TypeId} (h:w.heap[g]?=some (.cells #[a0,a1,a2,a3] t (0,0))) (b0 b1 b2 b3:Value) :
 ((((w.setCell ⟨g,0,none⟩ b0).setCell ⟨g,1,none⟩ b1).setCell ⟨g,2,none⟩ b2).setCell ⟨g,3,none⟩ b3).heap[g]?=some (.cells #[b0,b1,b2,b3] t (0,0)) :=
 hset_same (i:=3) (hset_same (i:=2) (hset_same (i:=1) (hset_same (i:=0) h b0) b1) b2) b3
theorem keeps_set4 {S:Nat→Prop} {w0 w:World} (k:Keeps S w0 w) (g:Nat) (b0 b1 b2 b3:Value) (hg:w0.heap.size≤g):Keeps S w0 ((((w.setCell ⟨g,0,none⟩ b0).setCell ⟨g,1,none⟩ b1).setCell ⟨g,2,none⟩ b2).setCell ⟨g,3,none⟩ b3) :=
 (((k.setNew ⟨g,0,none⟩ b0 hg).setNew ⟨g,1,none⟩ b1 hg).setNew ⟨g,2,none⟩ b2 hg).setNew ⟨g,3,none⟩ b3 hg
theorem head_read (w:World) (b bb:Nat) (m:Mem) (a:Int) (h:RMem w b bb m) (a0:0≤a) (a1:a≤4194304) :
 Calls Tryz.prog 89 #[.pointer (some ⟨b,0,none⟩),.int .i64 a] w fun e w'=>e=.returned (readWdV (m.readWd a))∧Keeps (fun _=>False) w w':=by
 have HD:Hid (m.readWd a=(if (m.cell a).2≠0∨(m.cell (a+8)).2≠0∨31<(m.cell (a+8)).1 % 256∨(m.cell (a+8)).1<0 then none
  else if (m.cell (a+16+Mem.pad8 ((m.cell (a+8)).1 % 256))).2≠0∨(m.text (a+16) ((m.cell (a+8)).1 % 256)).2≠0 then none
  else some (⟨a,a+16+Mem.pad8 ((m.cell (a+8)).1 % 256),(m.cell (a+8)).1 / 256,(m.text (a+16) ((m.cell (a+8)).1 % 256)).1⟩,(m.cell a).1))):=rfl
 generalize m.readWd a=r at HD ⊢;have HA:=h_ (h.allocd (.cells #[.int .i64 0,.int .i64 0,.int .i64 0,.string ⟨#[]⟩] 53));have HC0:=h_ (mem_cell _ b bb m a HA.out);have HC1:=h_ (mem_cell _ b bb m (a+8) HA.out);generalize m.cell a=q0 at HC0 HD;obtain ⟨v0,e0⟩:=q0;generalize m.cell (a+8)=q1 at HC1 HD;obtain ⟨v1,e1⟩:=q1;simp only at HD HC0 HC1
 have HT:=h_ (mem_text _ b bb m (a+16) (v1 % 256) HA.out);have HC2:=h_ (mem_cell _ b bb m (a+16+Mem.pad8 (v1 % 256)) HA.out);generalize m.text (a+16) (v1 % 256)=q2 at HT HD;obtain ⟨v2,e2⟩:=q2;have hp:Mem.pad8 (v1 % 256)=(v1 % 256+7)-(v1 % 256+7) % 8:=by unfold Mem.pad8;omega
 have HP:=h_ hp;generalize Mem.pad8 (v1 % 256)=pd at HC2 HD HP hp;generalize m.cell (a+16+pd)=q3 at HC2 HD;obtain ⟨v3,e3⟩:=q3;simp only at HD HT HC2
 have KA:=h_ (ka_ w (.cells #[.int .i64 0,.int .i64 0,.int .i64 0,.string ⟨#[]⟩] 53));have A0:=h_ (halloc_at w (.cells #[.int .i64 0,.int .i64 0,.int .i64 0,.string ⟨#[]⟩] 53));generalize hWA:w.alloc (.cells #[.int .i64 0,.int .i64 0,.int .i64 0,.string ⟨#[]⟩] 53)=wa at HC0 HC1 HT HC2 KA A0 HA;have hand:=and_255 v1;have hw8:IntKind.i64.wrap (a+8)=a+8:=IntWalk.i64_in _ (by omega)
 have hw16:IntKind.i64.wrap (a+16)=a+16:=IntWalk.i64_in _ (by omega)
 have hn0:0≤v1 % 256:=by omega
 have hn1:v1 % 256≤255:=by omega
 have hn7:=andNot_7 (v1 % 256+7) (by omega) (by omega)
 rw [← HP.out,show v1 % 256+7=v1 % 256+8-1 by omega] at hn7
 have hpb:0≤pd∧pd≤262:=by omega
 obtain ⟨hp0,hp1⟩:=hpb;have hww:IntKind.i64.wrap (a+16+pd)=a+16+pd:=IntWalk.i64_in _ (by omega)
 clear h hp;generalize v1 % 256=n at *
 go_enter Tryz.func89,Tryz.ntmps89
 go_wp2_with fail;clear hWA;refine HC0.out.mono ?_;rintro e w1 ⟨rfl,rfl⟩;go_wp2_with fail;refine HC1.out.mono ?_;rintro e w1 ⟨rfl,rfl⟩;have a0:wa.cell? ⟨w.heap.size,0,none⟩=some (.int .i64 0):=cell_of A0.out rfl;have a1:wa.cell? ⟨w.heap.size,1,none⟩=some (.int .i64 0):=cell_of A0.out rfl;have a2:wa.cell? ⟨w.heap.size,2,none⟩=some (.int .i64 0):=cell_of A0.out rfl;have a3:wa.cell? ⟨w.heap.size,3,none⟩=some (.string ⟨#[]⟩):=cell_of A0.out rfl;have f0:=free_of (i:=0) A0.out;have f1:=free_of (i:=1) A0.out;have f2:=free_of (i:=2) A0.out;have f3:=free_of (i:=3) A0.out;by_cases hbad:e0≠0∨e1≠0∨31<n∨v1<0
 · have hr:=HD.out
   rw [if_pos hbad] at hr;subst hr;have hc:e0≠0∨(e0=0∧e1≠0)∨(e0=0∧e1=0∧31<n)∨(e0=0∧e1=0∧n≤31∧v1<0):=by omega
   clear hbad HD;clear HC2 HT hw16 hn7 hww
   rcases hc with h | ⟨h1,h⟩ | ⟨h1,h2,h⟩ | ⟨h1,h2,h3,h⟩
   · have d1:(e0 != 0)=true:=by simp [h]
     clear h;go_wp2_with fail;have hB:=set4 A0.out (.int .i64 0) (.int .i64 0) (.int .i64 0) (.string ⟨#[]⟩);have g0:=cell_of (i:=0) hB rfl;have g1:=cell_of (i:=1) hB rfl;have g2:=cell_of (i:=2) hB rfl;have g3:=cell_of (i:=3) hB rfl;exact bodyPost_ret (v:=readWdV none) (by simp [results,Tryz.results89,go_sem,readWdV,Wd.val,Wd.none,g0,g1,g2,g3]) rfl ⟨rfl,keeps_set4 KA.out _ _ _ _ _ (Nat.le_refl _)⟩
   · have d1:(e0 != 0)=false:=by simp [h1]
     have d2:(e1 != 0)=true:=by simp [h]
     clear h h1;go_wp2_with fail;have hB:=set4 A0.out (.int .i64 0) (.int .i64 0) (.int .i64 0) (.string ⟨#[]⟩);have g0:=cell_of (i:=0) hB rfl;have g1:=cell_of (i:=1) hB rfl;have g2:=cell_of (i:=2) hB rfl;have g3:=cell_of (i:=3) hB rfl;exact bodyPost_ret (v:=readWdV none) (by simp [results,Tryz.results89,go_sem,readWdV,Wd.val,Wd.none,g0,g1,g2,g3]) rfl ⟨rfl,keeps_set4 KA.out _ _ _ _ _ (Nat.le_refl _)⟩
   · have d1:(e0 != 0)=false:=by simp [h1]
     have d2:(e1 != 0)=false:=by simp [h2]
     have d3:decide (31<n)=true:=by simp [h]
     clear h1 h2;go_wp2_with fail;have hB:=set4 A0.out (.int .i64 0) (.int .i64 0) (.int .i64 0) (.string ⟨#[]⟩);have g0:=cell_of (i:=0) hB rfl;have g1:=cell_of (i:=1) hB rfl;have g2:=cell_of (i:=2) hB rfl;have g3:=cell_of (i:=3) hB rfl;exact bodyPost_ret (v:=readWdV none) (by simp [results,Tryz.results89,go_sem,readWdV,Wd.val,Wd.none,g0,g1,g2,g3]) rfl ⟨rfl,keeps_set4 KA.out _ _ _ _ _ (Nat.le_refl _)⟩
   · have d1:(e0 != 0)=false:=by simp [h1]
     have d2:(e1 != 0)=false:=by simp [h2]
     have d3:decide (31<n)=false:=by simp;omega
     have d4:decide (v1<0)=true:=by simp [h]
     clear h1 h2;go_wp2_with fail;have hB:=set4 A0.out (.int .i64 0) (.int .i64 0) (.int .i64 0) (.string ⟨#[]⟩);have g0:=cell_of (i:=0) hB rfl;have g1:=cell_of (i:=1) hB rfl;have g2:=cell_of (i:=2) hB rfl;have g3:=cell_of (i:=3) hB rfl;exact bodyPost_ret (v:=readWdV none) (by simp [results,Tryz.results89,go_sem,readWdV,Wd.val,Wd.none,g0,g1,g2,g3]) rfl ⟨rfl,keeps_set4 KA.out _ _ _ _ _ (Nat.le_refl _)⟩
 · replace HD:=h_ (HD.out.trans (if_neg hbad))
   have d1:(e0 != 0)=false:=by simp;omega
   have d2:(e1 != 0)=false:=by simp;omega
   have d3:decide (31<n)=false:=by simp;omega
   have d4:decide (v1<0)=false:=by simp;omega
   have hv:0≤v1:=by omega
   clear hbad;go_wp2_with fail;refine HT.out.mono ?_;rintro e w1 ⟨rfl,rfl⟩;unfold strV;go_wp2_with fail;refine HC2.out.mono ?_;rintro e w1 ⟨rfl,rfl⟩;clear HC2 HT hand hw16 hn7 hww HC0 HC1;by_cases hbad:e3≠0∨e2≠0
   · have hr:=HD.out
     rw [if_pos hbad] at hr;subst hr;have hc:e3≠0∨(e3=0∧e2≠0):=by omega
     clear hbad HD
     rcases hc with h | ⟨h1,h⟩
     · have d5:(e3 != 0)=true:=by simp [h]
       clear h;go_wp2_with fail;have hB:=set4 A0.out (.int .i64 0) (.int .i64 0) (.int .i64 0) (.string ⟨#[]⟩);have g0:=cell_of (i:=0) hB rfl;have g1:=cell_of (i:=1) hB rfl;have g2:=cell_of (i:=2) hB rfl;have g3:=cell_of (i:=3) hB rfl;exact bodyPost_ret (v:=readWdV none) (by simp [results,Tryz.results89,go_sem,readWdV,Wd.val,Wd.none,g0,g1,g2,g3]) rfl ⟨rfl,keeps_set4 KA.out _ _ _ _ _ (Nat.le_refl _)⟩
     · have d5:(e3 != 0)=false:=by simp [h1]
       have d6:(e2 != 0)=true:=by simp [h]
       clear h h1;go_wp2_with fail;have hB:=set4 A0.out (.int .i64 0) (.int .i64 0) (.int .i64 0) (.string ⟨#[]⟩);have g0:=cell_of (i:=0) hB rfl;have g1:=cell_of (i:=1) hB rfl;have g2:=cell_of (i:=2) hB rfl;have g3:=cell_of (i:=3) hB rfl;exact bodyPost_ret (v:=readWdV none) (by simp [results,Tryz.results89,go_sem,readWdV,Wd.val,Wd.none,g0,g1,g2,g3]) rfl ⟨rfl,keeps_set4 KA.out _ _ _ _ _ (Nat.le_refl _)⟩
   · have hr:=HD.out
     rw [if_neg hbad] at hr;subst hr;have d5:(e3 != 0)=false:=by simp;omega
     have d6:(e2 != 0)=false:=by simp;omega
     clear hbad HD;go_wp2_with fail;have hB:=set4 A0.out (.int .i64 a) (.int .i64 (a+16+pd)) (.int .i64 (v1 / 256)) (.string ⟨v2.toArray⟩);have g0:=cell_of (i:=0) hB rfl;have g1:=cell_of (i:=1) hB rfl;have g2:=cell_of (i:=2) hB rfl;have g3:=cell_of (i:=3) hB rfl;exact bodyPost_ret (v:=readWdV (some (⟨a,a+16+pd,v1 / 256,v2⟩,v0))) (by simp [results,Tryz.results89,go_sem,readWdV,Wd.val,Wd.none,g0,g1,g2,g3]) rfl ⟨rfl,keeps_set4 KA.out _ _ _ _ _ (Nat.le_refl _)⟩
theorem infoWd:(Tryz.prog.info? 53).map (fun i=>(i.zero,i.size,i.bytes))=some (some (.agg #[.int .i64 0,.int .i64 0,.int .i64 0,.string ⟨#[]⟩]),4,40):=by kernel_rfl
def Wd.cells (d:Wd):List Value:=[.int .i64 d.at_,.int .i64 d.xt,.int .i64 d.flags,.string ⟨d.name.toArray⟩]
def wdsV (L:List Wd):List Value:=L.flatMap Wd.cells
theorem wdsV_app (L M:List Wd):wdsV (L++M)=wdsV L++wdsV M:=by simp [wdsV]
theorem wdsV_get (L:List Wd) (i:Nat) (hi:i<L.length) (f:Nat) (hf:f<4):(wdsV L)[i*4+f]?=(L[i]).cells[f]?:=by
 induction L generalizing i with
 | nil=>simp at hi
 | cons d L ih =>
  have:wdsV (d :: L)=d.cells++wdsV L:=by simp [wdsV]
  rw [this]
  cases i with
  | zero=>rw [List.getElem?_append_left (by simp [Wd.cells];omega)];simp
  | succ i =>
   rw [List.getElem?_append_right (by simp [Wd.cells];omega)]
   have e:(i+1)*4+f-d.cells.length=i*4+f:=by simp [Wd.cells];omega
   rw [e,ih i (by simpa using hi)]
   simp
def OwnWds (W w:World) (a:Option Addr) (c:Nat) (L:List Wd):Prop:=Own w 53 4 a L.length c (wdsV L)∧∀ g,blk a=some g→W.heap.size≤g
def WdsPost (L:List Wd) (w:World) (e:Ending) (w':World):Prop:=∃ a c,e=.returned (.slice a L.length c)∧OwnWds w w' a c L∧Keeps (fun _=>False) w w'
theorem OwnWds.keeps {W w w':World} {a:Option Addr} {c:Nat} {L:List Wd} (h:OwnWds W w a c L) {S:Nat→Prop} (k:Keeps S w w') (hs:∀ g,blk a=some g→¬ S g):OwnWds W w' a c L:=⟨h.1.keeps k hs,h.2⟩
theorem OwnWds.alloc {W w:World} {a:Option Addr} {c:Nat} {L:List Wd} (h:OwnWds W w a c L) (o:Obj):OwnWds W (w.alloc o) a c L:=h.keeps (ka_ _ _) (fun _ _=>id)
theorem OwnWds.more {W w w':World} {a a':Option Addr} {c c':Nat} {L:List Wd} (h:OwnWds W w a c L) (x:Wd) (o:Own w' 53 4 a' (L.length+1) c' (wdsV L++x.cells)) (k:Nat) (l:blk a'=blk a∨blk a'=some k) (hk:W.heap.size≤k):OwnWds W w' a' c' (L++[x]):=by
 refine ⟨?_,?_⟩
 · rw [wdsV_app,List.length_append]
   have:wdsV [x]=x.cells:=by simp [wdsV]
   rw [this];exact o
 · intro g hg
   rcases l with e | e <;> rw [e] at hg
   · exact h.2 g hg
   · cases hg;exact hk
theorem OwnWds.at {W w:World} {a:Option Addr} {c:Nat} {L:List Wd} (h:OwnWds W w a c L) {i:Nat} (hi:i<L.length):∃ g,a=some ⟨g,0,none⟩∧W.heap.size≤g∧w.cell? ⟨g,i*4,none⟩=some (.int .i64 L[i].at_) ∧
 w.cell? ⟨g,i*4+1,none⟩=some (.int .i64 L[i].xt)∧w.cell? ⟨g,i*4+2,none⟩=some (.int .i64 L[i].flags)∧w.cell? ⟨g,i*4+3,none⟩=some (.string ⟨L[i].name.toArray⟩):=by
 rcases h.1.form with ⟨_,hn,_⟩ | ⟨g,cur,rfl,_⟩
 · omega
 · refine ⟨g,rfl,h.2 g rfl,?_,?_,?_,?_⟩
   · exact h.1.cell (j:=i*4) (by rw [show i*4=i*4+0 by omega,wdsV_get L i hi 0 (by omega)];rfl)
   · exact h.1.cell (j:=i*4+1) (by rw [wdsV_get L i hi 1 (by omega)];rfl)
   · exact h.1.cell (j:=i*4+2) (by rw [wdsV_get L i hi 2 (by omega)];rfl)
   · exact h.1.cell (j:=i*4+3) (by rw [wdsV_get L i hi 3 (by omega)];rfl)
theorem wd_news (w:World) (x:Wd):∀ j u,x.cells[j]?=some u→(w.alloc (.cells #[.int .i64 x.at_,.int .i64 x.xt,.int .i64 x.flags,.string ⟨x.name.toArray⟩] 53)).cell? ((⟨w.heap.size,0,none⟩:Addr).add j)=some u:=by
 intro j u hu;rw [Addr.add_lit,Nat.zero_add];refine cell_of (halloc_at _ _) ?_;simpa [Wd.cells] using hu
theorem wd_one (x:Wd):∀ u ∈ x.cells,u.oneCell'=true:=by
 intro u hu;simp [Wd.cells] at hu
 rcases hu with rfl | rfl | rfl | rfl <;> rfl
theorem head_words (w:World) (b bb:Nat) (m:Mem) (list:Int) (h:RMem w b bb m) :
 Calls Tryz.prog 75 #[.pointer (some ⟨b,0,none⟩),.int .i64 list] w (WdsPost (m.words list) w):=by
 have H:=h_ h;have hle:=h.le;have hlen:=Mem.words_len m list;clear h;have HD:Hid (m.words list=if (m.cell list).2≠0 then [] else Mem.wordsL m m.size (m.cell list).1):=Mem.words_is m list
 generalize m.words list=r at HD hlen ⊢;have hc:=h_ fun w H=>mem_cell w b bb m list H
 have hcb:=m.cell_bd list;generalize m.cell list=q at hc HD hcb;obtain ⟨a0,e0⟩:=q;simp only at HD hcb hc
 have hz0:=Mem.wordsL_len m m.size a0
 go_enter Tryz.func75,Tryz.ntmps75
 go_wp2_with fail;refine (hc.out _ H.out).mono ?_;rintro e w1 ⟨rfl,rfl⟩;go_wp2_with fail;refine (mem_size _ _ _ _ H.out).mono ?_;rintro e w1 ⟨rfl,rfl⟩;by_cases he:e0=0
 · have hr:=HD.out
   rw [if_neg (by simpa using he)] at hr
   have he':(e0 == 0)=true:=by simp [he]
   have HR:=h_ hr;clear HD hr he;go_wp2_with fail
   go_loopw [5,6,8] (fun ov av lv wr=>∃ (L:List Wd) (a:Option Addr) (c:Nat) (at_ last:Int),ov=.slice a L.length c∧av=.int .i64 at_∧lv=.int .i64 last∧OwnWds w wr a c L∧RMem wr b bb m∧Keeps (fun _=>False) w wr ∧
    L++Mem.wordsL m last at_=Mem.wordsL m m.size a0∧last≤4194304∧(-9223372036854775808≤at_∧at_≤9223372036854775807))
    (fun _ _ lv _=>(intOf lv).toNat)
   case atStart=>exact ⟨[],none,0,a0,m.size,rfl,rfl,rfl,⟨Own.nil _ _ _,by simp [blk]⟩,H.out,Keeps.refl _ _,rfl,by omega,hcb⟩
   case round =>
    obtain ⟨L,a,c,at_,last,rfl,rfl,rfl,ho,hm,hk,hL,hl4,⟨hb0,hb1⟩⟩:=hrel;have HO:=h_ ho;have HM:=h_ hm;have HK:=h_ hk
    have hLlen:L.length≤m.size:=by
     rw [← hL,List.length_append] at hz0;omega
    have HL:=h_ hL;clear ho hm hk hL;by_cases hlt:0<at_∧at_<last
    · obtain ⟨g1,g2⟩:=hlt
      have hrd:=h_ (head_read wr b bb m at_ HM.out (by omega) (by omega))
      have HN:=h_ (Mem.wordsL_none m last at_);have HS:=h_ fun d l=>Mem.wordsL_some m last at_ ⟨g1,g2⟩ (d:=d) (l:=l)
      have HB:=h_ (show ∀ d l,m.readWd at_=some (d,l) → -9223372036854775808≤l∧l≤9223372036854775807 from fun d l e=>by rw [Mem.readWd_link e];exact m.cell_bd _)
      generalize m.readWd at_=x at hrd HN HS HB;go_wp2_with fail;refine hrd.out.mono ?_;rintro e w2 ⟨rfl,k2⟩;have hge:w.heap.size≤w2.heap.size:=(HK.out.trans k2).size
      cases x with
      | none =>
       have hw:=HN.out rfl;have O2:=h_ ((HO.out.keeps k2 (fun _ _=>id)).alloc (.cells #[.int .i64 0,.int .i64 0,.int .i64 0,.string ⟨#[]⟩] 53))
       have K2:=h_ ((HK.out.trans k2).trans (ka_ _ (.cells #[.int .i64 0,.int .i64 0,.int .i64 0,.string ⟨#[]⟩] 53)));unfold readWdV Wd.val Wd.none;clear k2 HO HM HK;have HW:=h_ hw;clear hw;go_wp2_with fail;go_ret
       have hw:L=Mem.wordsL m m.size a0:=by
        have:=HL.out;rw [HW.out,List.append_nil] at this;exact this
       refine ⟨a,c,?_,?_,?_⟩
       · rw [HR.out,← hw];rfl
       · rw [HR.out,← hw];exact O2.out
       · exact K2.out
      | some x =>
       obtain ⟨x,l⟩:=x;have hw:=HS.out x l rfl;have hlb:=HB.out x l rfl;have O2:=h_ ((HO.out.keeps k2 (fun _ _=>id)).alloc (.cells #[.int .i64 x.at_,.int .i64 x.xt,.int .i64 x.flags,.string ⟨x.name.toArray⟩] 53))
       have M2:=h_ ((HM.out.keeps k2 id id).allocd (.cells #[.int .i64 x.at_,.int .i64 x.xt,.int .i64 x.flags,.string ⟨x.name.toArray⟩] 53));have K2:=h_ ((HK.out.trans k2).trans (ka_ _ (.cells #[.int .i64 x.at_,.int .i64 x.xt,.int .i64 x.flags,.string ⟨x.name.toArray⟩] 53)));have hlt:∀ g,blk a=some g→g<w2.heap.size:=fun g hg=>(HO.out.keeps k2 (fun _ _=>id)).1.lt hg
       have HLT:=h_ hlt;unfold readWdV Wd.val;clear k2 HO HM HK hlt;have HW:=h_ hw;clear hw
       go_wp2_with (first
        | (at_builtin;refine wpList_app rfl _ _ 166 rfl 53 _ 4 40 Tryz.underlying166 infoWd rfl (by decide) a L.length c (wdsV L) rfl (O2.out.alloc _).1 ⟨w2.heap.size+1,0,none⟩ 1 1 x.cells rfl rfl ?c1 (wd_one x) ?c3 ?c4 ?_))
       case c1 =>
        have:=wd_news (w2.alloc (.cells #[.int .i64 x.at_,.int .i64 x.xt,.int .i64 x.flags,.string ⟨x.name.toArray⟩] 53)) x;rw [World.size_alloc] at this;exact this
       case c3=>unfold maxLen;omega
       case c4=>omega
       intro a' c' w3 o3 k3 l3;have KA:=(K2.out.trans (ka_ _ (.cells #[.int .i64 x.at_,.int .i64 x.xt,.int .i64 x.flags,.string ⟨x.name.toArray⟩] 53))).trans' k3 (fun i hi e=>absurd (O2.out.2 i e) (by omega))
       have O3:=h_ (O2.out.more x o3 _ l3 (by omega))
       have KK:=h_ KA
       have hL':(L++[x])++Mem.wordsL m at_ l=Mem.wordsL m m.size a0:=by
        have:=HL.out;rw [HW.out] at this;simpa using this
       have HL':=h_ hL';clear k3 o3 l3 KA hL';go_wp2_with fail
       go_roundw
       case rel =>
        refine ⟨L++[x],a',c',l,at_,?_,rfl,rfl,O3.out,H.out.keeps KK.out id id,KK.out,HL'.out,by omega,hlb⟩
        rw [List.length_append];rfl
       case measure=>simp [intOf];omega
    · have hw:=Mem.wordsL_end m last at_ hlt
      have HW:=h_ hw;clear hw;have hc2:at_≤0∨(0<at_∧last≤at_):=by omega
      clear hlt
      rcases hc2 with h1 | ⟨h1,h2⟩
      · have d1:decide (0<at_)=false:=decide_eq_false (by omega)
        clear h1;go_wp2_with fail;go_ret
        have hw:L=Mem.wordsL m m.size a0:=by
         have:=HL.out;rw [HW.out,List.append_nil] at this;exact this
        exact ⟨a,c,by rw [HR.out,← hw];rfl,by rw [HR.out,← hw];exact HO.out,HK.out⟩
      · have d2:decide (at_<last)=false:=decide_eq_false (by omega)
        clear h2;go_wp2_with fail;go_ret
        have hw:L=Mem.wordsL m m.size a0:=by
         have:=HL.out;rw [HW.out,List.append_nil] at this;exact this
        exact ⟨a,c,by rw [HR.out,← hw];rfl,by rw [HR.out,← hw];exact HO.out,HK.out⟩
 · have hr:=HD.out
   rw [if_pos he] at hr;subst hr;have he':(e0 == 0)=false:=by simp [he]
   go_wp2_with fail;refine wp_loop_rounds 1 ?_;rw [rounds_succ];go_wp2_with fail;go_ret
   exact ⟨none,0,rfl,⟨Own.nil _ _ _,by simp [blk]⟩,Keeps.refl _ _⟩
def fits (low:List UInt8) (w:Wd):Bool:=decide (w.name=low) && decide (w.flags % 4<2)
theorem findIn_none (m:Mem) (name:List UInt8) (a:Int) (r:List Int) (h:Mem.findIn (m.words a) (lower name)=none):m.find name (a :: r)=m.find name r:=by
 rw [Mem.find,h]
theorem findIn_some (m:Mem) (name:List UInt8) (a:Int) (r:List Int) {d:Wd} (h:Mem.findIn (m.words a) (lower name)=some d):m.find name (a :: r)=some d:=by
 rw [Mem.find,h]
theorem findIn_hit (low:List UInt8) (d:Wd) (l:List Wd) (h:fits low d=true):Mem.findIn (d :: l) low=some d:=by
 unfold Mem.findIn;rw [List.find?_cons_of_pos];exact h
theorem findIn_miss (low:List UInt8) (d:Wd) (l:List Wd) (h:fits low d=false):Mem.findIn (d :: l) low=Mem.findIn l low:=by
 unfold Mem.findIn;rw [List.find?_cons_of_neg];intro e;have:fits low d=true:=e;rw [h] at this
 cases this
def findV:Option Wd→Value
 | none=>.tuple #[Wd.none.val,.bool false]
 | some d=>.tuple #[d.val,.bool true]
theorem head_find (w:World) (b bb:Nat) (m:Mem) (name:List UInt8) (la:Option Addr) (ln lc:Nat) (ls:List Int) (h:RMem w b bb m) (hn:name.length≤4194304) (hl:Own w 2 1 la ln lc (ls.map (Value.int .i64))) (hll:ls.length=ln) (h6:ln≤1000000) :
 Calls Tryz.prog 42 #[.pointer (some ⟨b,0,none⟩),.string ⟨name.toArray⟩,.slice la ln lc] w fun e w'=>e=.returned (findV (m.find name ls))∧Keeps (fun _=>False) w w':=by
 have HLW:=h_ fun w=>intern_lower w name hn
 have H:=h_ (h.allocd (.cells #[.int .i64 0,.int .i64 0,.int .i64 0,.string ⟨#[]⟩] 53));have HLS:=h_ (hl.keeps (ka_ w (.cells #[.int .i64 0,.int .i64 0,.int .i64 0,.string ⟨#[]⟩] 53)) (fun _ _=>id))
 have KA:=h_ (ka_ w (.cells #[.int .i64 0,.int .i64 0,.int .i64 0,.string ⟨#[]⟩] 53));have A0:=h_ (halloc_at w (.cells #[.int .i64 0,.int .i64 0,.int .i64 0,.string ⟨#[]⟩] 53));have HN:=h_ (show ∀ a r,Mem.findIn (m.words a) (lower name)=none→m.find name (a :: r)=m.find name r from fun a r=>findIn_none m name a r)
 have HSM:=h_ (show ∀ a r d,Mem.findIn (m.words a) (lower name)=some d→m.find name (a :: r)=some d from fun a r d=>findIn_some m name a r)
 have HNIL:=h_ (show m.find name []=none from rfl)
 have HLL:=h_ hll;have hle:=h.le;generalize hWA:w.alloc (.cells #[.int .i64 0,.int .i64 0,.int .i64 0,.string ⟨#[]⟩] 53)=wa at H HLS KA A0;generalize lower name=low at HLW HN HSM;generalize m.find name=F at HN HSM HNIL ⊢;clear h hl hll hn
 go_enter Tryz.func42,Tryz.ntmps42
 go_wp2_with fail;clear hWA;refine (HLW.out _).mono ?_;rintro e w1 ⟨rfl,k1⟩;have K1:=h_ k1;clear k1;go_wp2_with fail
 go_loopw [17] (fun iv wr=>∃ i:Nat,iv=.int .i64 i∧i≤ln∧F ls=F (ls.drop i)∧Keeps (fun _=>False) wa wr) (fun iv _=>ln-(intOf iv).toNat)
 case atStart=>exact ⟨0,rfl,Nat.zero_le _,rfl,K1.out⟩
 case round =>
  obtain ⟨i,rfl,hi,hf,hk⟩:=hrel;have HF:=h_ hf;have HK:=h_ hk;clear hf hk;by_cases hlt:i<ln
  · have hi':i<ls.length:=by rw [HLL.out];exact hlt
    have hi0:(0:Int)≤(i:Int):=by omega
    obtain ⟨g,hg,hc⟩:∃ g,la=some ⟨g,0,none⟩∧wr.cell? ⟨g,i,none⟩=some (.int .i64 ls[i]):=by
     have ho:=HLS.out.keeps HK.out (fun _ _=>id)
     rcases Own.form ho with ⟨_,hn,_⟩ | ⟨g,cur,rfl,_⟩
     · omega
     · exact ⟨g,rfl,Own.cell ho (by simp [hi'])⟩
    subst hg;have HD:=h_ (List.drop_eq_getElem_cons hi');generalize ls[i]=x at hc HD;have hwd:=h_ (head_words wr b bb m x (H.out.keeps HK.out id id));have hwl:=Mem.words_len m x;have HNX:=h_ fun r=>HN.out x r
    have HSX:=h_ fun r d=>HSM.out x r d
    generalize m.words x=L at hwd hwl HNX HSX;clear hi';go_wp2_with fail;refine hwd.out.mono ?_;rintro e w2 ⟨a,c,rfl,o2,k2⟩;have O2:=h_ o2;have K2:=h_ (HK.out.trans k2);have HSZ:=h_ k2.size;clear o2 k2 hc;go_wp2_with fail
    go_loopw [25] (fun kv wq=>∃ k:Nat,kv=.int .i64 k∧k≤L.length∧Mem.findIn L low=Mem.findIn (L.drop k) low∧Keeps (fun _=>False) w2 wq) (fun kv _=>L.length-(intOf kv).toNat)
    case atStart=>exact ⟨0,rfl,Nat.zero_le _,rfl,Keeps.refl _ _⟩
    case round =>
     obtain ⟨k,rfl,hk,hfi,hkk⟩:=hrel;have HFI:=h_ hfi;have HKK:=h_ hkk;clear hfi hkk;by_cases hkt:k<L.length
     · have hk0:(0:Int)≤(k:Int):=by omega
       obtain ⟨g2,rfl,hg2,y0,y1,y2,y3⟩:=(O2.out.keeps HKK.out (fun _ _=>id)).at hkt
       have HD2:=h_ (List.drop_eq_getElem_cons hkt);generalize L[k]=d at y0 y1 y2 y3 HD2;obtain ⟨da,dx,df,dn⟩:=d;simp only at y0 y1 y2 y3
       have hand:=and_2 df;have KQ:=h_ (HKK.out.trans (ka_ wr (.cells #[.int .i64 da,.int .i64 dx,.int .i64 df,.string ⟨dn.toArray⟩] 53)));by_cases hc1:dn=low
       · have c1:(dn == low)=true:=by simp [hc1]
         by_cases hc2:df % 4<2
         · have c2:(df % 4 / 2*2 == 0)=true:=by simp;omega
           have HFT:=h_ (findIn_hit low ⟨da,dx,df,dn⟩ (L.drop (k+1)) (by simp [fits,hc1,hc2]))
           have HFE:=h_ (show F ls=some ⟨da,dx,df,dn⟩ by rw [HF.out,HD.out];exact HSX.out _ _ (by rw [HFI.out,HD2.out,HFT.out]))
           have hwa:=KA.out.size;have hsz:=((KA.out.trans K2.out).trans HKK.out).size;have hsl:w.heap.size<wr.heap.size:=lt_of_heap ((K2.out.trans HKK.out).heap A0.out id);have HB:=h_ ((K2.out.trans HKK.out).heap A0.out id);have HBB:=h_ ((K2.out.trans KQ.out).heap A0.out id);have a0:wr.cell? ⟨w.heap.size,0,none⟩=some (.int .i64 0):=cell_of HB.out rfl;have a1:wr.cell? ⟨w.heap.size,1,none⟩=some (.int .i64 0):=cell_of HB.out rfl;have a2:wr.cell? ⟨w.heap.size,2,none⟩=some (.int .i64 0):=cell_of HB.out rfl;have a3:wr.cell? ⟨w.heap.size,3,none⟩=some (.string ⟨#[]⟩):=cell_of HB.out rfl;have f0:=free_of (i:=0) HB.out;have f1:=free_of (i:=1) HB.out;have f2:=free_of (i:=2) HB.out;have f3:=free_of (i:=3) HB.out;clear hc1 hc2;go_wp2_with fail;have hB:=(ka_ _ (.cells #[.int .i64 da,.int .i64 dx,.int .i64 df,.string ⟨dn.toArray⟩] 53)).heap (set4 HB.out (.int .i64 da) (.int .i64 dx) (.int .i64 df) (.string ⟨dn.toArray⟩)) id;have g0:=cell_of (i:=0) hB rfl;have g1:=cell_of (i:=1) hB rfl;have g2:=cell_of (i:=2) hB rfl;have g3:=cell_of (i:=3) hB rfl;exact bodyPost_ret (v:=findV (some ⟨da,dx,df,dn⟩)) (by simp [results,Tryz.results42,go_sem,findV,Wd.val,Wd.none,g0,g1,g2,g3]) rfl ⟨by rw [HFE.out],(keeps_set4 ((KA.out.trans K2.out).trans HKK.out) _ _ _ _ _ (Nat.le_refl _)).trans (Keeps.alloc _ _ _)⟩
         · have c2:(df % 4 / 2*2 == 0)=false:=by simp;omega
           have HFT:=h_ (findIn_miss low ⟨da,dx,df,dn⟩ (L.drop (k+1)) (by simp [fits,hc2]))
           clear hc1 hc2;go_wp2_with fail
           go_roundw
           case rel=>exact ⟨k+1,by go_num,by omega,by rw [HFI.out,HD2.out,HFT.out],KQ.out⟩
           case measure=>simp [intOf];omega
       · have c1:(dn == low)=false:=by simp [hc1]
         have HFT:=h_ (findIn_miss low ⟨da,dx,df,dn⟩ (L.drop (k+1)) (by simp [fits,hc1]))
         clear hc1;go_wp2_with fail
         go_roundw
         case rel=>exact ⟨k+1,by go_num,by omega,by rw [HFI.out,HD2.out,HFT.out],KQ.out⟩
         case measure=>simp [intOf];omega
     · have hge:k=L.length:=by omega
       have HFE:=h_ (show F ls=F (ls.drop (i+1)) by
        rw [HF.out,HD.out];refine HNX.out _ ?_;rw [HFI.out,hge,List.drop_length]
        rfl)
       have KQ:=h_ (K2.out.trans HKK.out);go_wp2_with fail
       go_roundw
       case rel=>exact ⟨i+1,by go_num,by omega,HFE.out,KQ.out⟩
       case measure=>simp [intOf];omega
  · have hge:i=ln:=by omega
    have HFE:=h_ (show F ls=none by rw [HF.out,hge,← HLL.out,List.drop_length];exact HNIL.out)
    have HB:=h_ (HK.out.heap A0.out id);have hsl:w.heap.size<wr.heap.size:=lt_of_heap HB.out;have a0:wr.cell? ⟨w.heap.size,0,none⟩=some (.int .i64 0):=cell_of HB.out rfl;have a1:wr.cell? ⟨w.heap.size,1,none⟩=some (.int .i64 0):=cell_of HB.out rfl;have a2:wr.cell? ⟨w.heap.size,2,none⟩=some (.int .i64 0):=cell_of HB.out rfl;have a3:wr.cell? ⟨w.heap.size,3,none⟩=some (.string ⟨#[]⟩):=cell_of HB.out rfl;have f0:=free_of (i:=0) HB.out;have f1:=free_of (i:=1) HB.out;have f2:=free_of (i:=2) HB.out;have f3:=free_of (i:=3) HB.out;go_wp2_with fail;have hB:=set4 HB.out (.int .i64 0) (.int .i64 0) (.int .i64 0) (.string ⟨#[]⟩);have g0:=cell_of (i:=0) hB rfl;have g1:=cell_of (i:=1) hB rfl;have g2:=cell_of (i:=2) hB rfl;have g3:=cell_of (i:=3) hB rfl;exact bodyPost_ret (v:=findV none) (by simp [results,Tryz.results42,go_sem,findV,Wd.val,Wd.none,g0,g1,g2,g3]) rfl ⟨by rw [HFE.out],keeps_set4 (KA.out.trans HK.out) _ _ _ _ _ (Nat.le_refl _)⟩
theorem allocs6 (w:World) (o0 o1 o2 o3 o4 o5:Obj):∃ W,W=(((((w.alloc o0).alloc o1).alloc o2).alloc o3).alloc o4).alloc o5∧W.heap[w.heap.size]?=some o0∧W.heap[w.heap.size+1]?=some o1∧W.heap[w.heap.size+2]?=some o2∧W.heap[w.heap.size+3]?=some o3 ∧
 W.heap[w.heap.size+4]?=some o4∧W.heap[w.heap.size+5]?=some o5∧W.heap.size=w.heap.size+6∧Keeps (fun _=>False) w W:=by
 refine ⟨_,rfl,?_,?_,?_,?_,?_,?_,?_,?_⟩
 · exact (halloc_old _ _ (by first | (simp;done) | (simp;omega))).trans ((halloc_old _ _ (by first | (simp;done) | (simp;omega))).trans ((halloc_old _ _ (by first | (simp;done) | (simp;omega))).trans ((halloc_old _ _ (by first | (simp;done) | (simp;omega))).trans ((halloc_old _ _ (by first | (simp;done) | (simp;omega))).trans (halloc_at _ _)))))
 · exact (halloc_old _ _ (by first | (simp;done) | (simp;omega))).trans ((halloc_old _ _ (by first | (simp;done) | (simp;omega))).trans ((halloc_old _ _ (by first | (simp;done) | (simp;omega))).trans ((halloc_old _ _ (by first | (simp;done) | (simp;omega))).trans (halloc_2 _ _ _))))
 · refine (halloc_old _ _ (by first | (simp;done) | (simp;omega))).trans ((halloc_old _ _ (by first | (simp;done) | (simp;omega))).trans ((halloc_old _ _ (by first | (simp;done) | (simp;omega))).trans ?_))
   have:=halloc_at ((w.alloc o0).alloc o1) o2;simpa using this
 · refine (halloc_old _ _ (by first | (simp;done) | (simp;omega))).trans ((halloc_old _ _ (by first | (simp;done) | (simp;omega))).trans ?_)
   have:=halloc_at (((w.alloc o0).alloc o1).alloc o2) o3;simpa using this
 · refine (halloc_old _ _ (by first | (simp;done) | (simp;omega))).trans ?_
   have:=halloc_at ((((w.alloc o0).alloc o1).alloc o2).alloc o3) o4;simpa using this
 · have:=halloc_at (((((w.alloc o0).alloc o1).alloc o2).alloc o3).alloc o4) o5
   simpa using this
 · simp
 · exact ((((((Keeps.alloc _ _ _).trans (Keeps.alloc _ _ _)).trans (Keeps.alloc _ _ _)).trans (Keeps.alloc _ _ _)).trans (Keeps.alloc _ _ _)).trans (Keeps.alloc _ _ _))
theorem keeps_set4g (w:World) (g:Nat) (b0 b1 b2 b3:Value):Keeps (fun k=>k=g) w ((((w.setCell ⟨g,0,none⟩ b0).setCell ⟨g,1,none⟩ b1).setCell ⟨g,2,none⟩ b2).setCell ⟨g,3,none⟩ b3):=by
 have k0:Keeps (fun k=>k=g) w (w.setCell ⟨g,0,none⟩ b0):=Keeps.setCell w ⟨g,0,none⟩ b0 (fun _=>rfl)
 have k1:=k0.trans (Keeps.setCell (S:=fun k=>k=g) (w.setCell ⟨g,0,none⟩ b0) ⟨g,1,none⟩ b1 (fun _=>rfl))
 have k2:=k1.trans (Keeps.setCell (S:=fun k=>k=g) ((w.setCell ⟨g,0,none⟩ b0).setCell ⟨g,1,none⟩ b1) ⟨g,2,none⟩ b2 (fun _=>rfl))
 exact k2.trans (Keeps.setCell (S:=fun k=>k=g) (((w.setCell ⟨g,0,none⟩ b0).setCell ⟨g,1,none⟩ b1).setCell ⟨g,2,none⟩ b2) ⟨g,3,none⟩ b3 (fun _=>rfl))
def CreatePost (s b bb:Nat) (r:Sp × Wd × Int) (w:World) (e:Ending) (w':World):Prop :=
 e=.returned (.tuple #[r.2.1.val,.int .i64 r.2.2])∧RSp w' s b bb r.1∧Keeps (fun k=>k=s∨k=bb) w w'
abbrev Pt (n:Nat):Value:=.pointer (some ⟨n,0,none⟩)
def putV (B g s g2:Nat):Array Value:=#[.func (.func 148) #[] #[Pt B,Pt g],.func (.func 149) #[] #[Pt B,Pt (B+1+1),Pt (B+1+1+1)],.func (.func 150) #[] #[Pt B,Pt g2],.func (.func 147) #[Pt s] #[],
 .func (.func 152) #[] #[Pt B,Pt g2,Pt (B+1+1+1+1)],.func (.func 153) #[] #[Pt B,Pt (B+1),Pt g2]]
structure Boxes (B s g g2 gp:Nat) (l fl cd lk:Int) (name:List UInt8) (W:World):Prop where
 e0:W.heap[B]?=some (.cells #[.pointer (some ⟨s,0,none⟩)] 41 (0,0))
 e1:W.heap[B+1]?=some (.cells #[.int .i64 l] 2 (0,0))
 e2:W.heap[B+2]?=some (.cells #[.string ⟨name.toArray⟩] 9 (0,0))
 e3:W.heap[B+3]?=some (.cells #[.int .i64 fl] 2 (0,0))
 e4:W.heap[B+4]?=some (.cells #[.int .i64 cd] 2 (0,0))
 e5:W.heap[B+5]?=some (.cells #[.int .i64 0,.int .i64 0,.int .i64 0,.string ⟨#[]⟩] 53 (0,0))
 eg:W.heap[g]?=some (.cells #[.int .i64 lk] 2 (0,0))
 ep:W.heap[gp]?=some (.cells (putV B g s g2) 80 (0,0))
theorem Boxes.keeps {B s g g2 gp:Nat} {l fl cd lk:Int} {name:List UInt8} {W W':World} (h:Boxes B s g g2 gp l fl cd lk name W) {S:Nat→Prop} (k:Keeps S W W') (n:∀ k,(B≤k∧k≤B+5)∨k=g∨k=gp→¬ S k):Boxes B s g g2 gp l fl cd lk name W' :=
 ⟨k.heap h.e0 (n _ (by omega)),k.heap h.e1 (n _ (by omega)),k.heap h.e2 (n _ (by omega)),k.heap h.e3 (n _ (by omega)),k.heap h.e4 (n _ (by omega)),k.heap h.e5 (n _ (by omega)),k.heap h.eg (n _ (by omega)),k.heap h.ep (n _ (by omega))⟩
theorem head_create (w:World) (s b bb:Nat) (x:Sp) (l:Int) (name:List UInt8) (fl cd:Int) (h:RSp w s b bb x) (f0:0≤fl) (f1:fl≤255) :
 Calls Tryz.prog 82 #[.pointer (some ⟨s,0,none⟩),.int .i64 l,.string ⟨name.toArray⟩,.int .i64 fl,.int .i64 cd] w (CreatePost s b bb (x.create l name fl cd) w):=by
 obtain ⟨wa,hWA,x5,x6,x7,x8,x9,A0,hsz,ka⟩:=allocs6 w (.cells #[.pointer (some ⟨s,0,none⟩)] 41) (.cells #[.int .i64 l] 2) (.cells #[.string ⟨name.toArray⟩] 9) (.cells #[.int .i64 fl] 2) (.cells #[.int .i64 cd] 2) (.cells #[.int .i64 0,.int .i64 0,.int .i64 0,.string ⟨#[]⟩] 53);have HW:=h_ hWA.symm;clear hWA;have c5:=cell_of (i:=0) x5 rfl;have c6:=cell_of (i:=0) x6 rfl;have c7:=cell_of (i:=0) x7 rfl;have c8:=cell_of (i:=0) x8 rfl;have c9:=cell_of (i:=0) x9 rfl;have X5:=h_ x5;have X6:=h_ x6;have X7:=h_ x7;have X8:=h_ x8;have X9:=h_ x9;have a0:wa.cell? ⟨w.heap.size+5,0,none⟩=some (.int .i64 0):=cell_of A0 rfl;have a1:wa.cell? ⟨w.heap.size+5,1,none⟩=some (.int .i64 0):=cell_of A0 rfl;have a2:wa.cell? ⟨w.heap.size+5,2,none⟩=some (.int .i64 0):=cell_of A0 rfl;have a3:wa.cell? ⟨w.heap.size+5,3,none⟩=some (.string ⟨#[]⟩):=cell_of A0 rfl;have b0:=free_of (i:=0) A0;have b1:=free_of (i:=1) A0;have b2:=free_of (i:=2) A0;have b3:=free_of (i:=3) A0;have AA:=h_ A0;have KA:=h_ ka;have H:=h_ (h.keeps ka id id id);have hlt:s<w.heap.size∧b<w.heap.size∧bb<w.heap.size:=⟨lt_of_heap h.head,h.mem.lt⟩;clear x5 x6 x7 x8 x9 A0 ka h;by_cases hbad:name=[]∨31<name.length
 · have hr:x.create l name fl cd=(x,Wd.none,-16):=by unfold Sp.create;rw [if_pos hbad]
   rw [hr];clear hr
   have hc:name=[]∨(name≠[]∧31<name.length):=by
    by_cases e:name=[]
    · exact .inl e
    · exact .inr ⟨e,by rcases hbad with h | h;exact absurd h e;exact h⟩
   clear hbad
   rcases hc with hc | ⟨hc,hd⟩
   · have d1:(name == [])=true:=by simp [hc]
     clear hc
     go_enter Tryz.func82,Tryz.ntmps82
     go_upto_region 1 with fail;rw [HW.out];clear HW;go_wp2_with fail;have hB:=set4 AA.out (.int .i64 0) (.int .i64 0) (.int .i64 0) (.string ⟨#[]⟩);have g0:=cell_of (i:=0) hB rfl;have g1:=cell_of (i:=1) hB rfl;have g2:=cell_of (i:=2) hB rfl;have g3:=cell_of (i:=3) hB rfl;have KS:=keeps_set4 KA.out (w.heap.size+5) (.int .i64 0) (.int .i64 0) (.int .i64 0) (.string ⟨#[]⟩) (by omega)
     have RS:=(H.out).keeps (keeps_set4g _ (w.heap.size+5) (.int .i64 0) (.int .i64 0) (.int .i64 0) (.string ⟨#[]⟩)) (fun e=>by have e:s=w.heap.size+5:=e;omega) (fun e=>by have e:b=w.heap.size+5:=e;omega) (fun e=>by have e:bb=w.heap.size+5:=e;omega)
     exact bodyPost_ret (v:=.tuple #[Wd.none.val,(.int .i64 (-16))]) (by simp [results,Tryz.results82,go_sem,Wd.val,Wd.none,g0,g1,g2,g3]) rfl ⟨rfl,RS,by first | exact KS | exact KS.mono (fun _ _ e=>e.elim)⟩
   · have d1:(name == [])=false:=by simp [hc]
     have hd':(31:Int)<(name.length:Int):=by omega
     clear hc hd
     go_enter Tryz.func82,Tryz.ntmps82
     go_upto_region 1 with fail;rw [HW.out];clear HW;go_wp2_with fail;have hB:=set4 AA.out (.int .i64 0) (.int .i64 0) (.int .i64 0) (.string ⟨#[]⟩);have g0:=cell_of (i:=0) hB rfl;have g1:=cell_of (i:=1) hB rfl;have g2:=cell_of (i:=2) hB rfl;have g3:=cell_of (i:=3) hB rfl;have KS:=keeps_set4 KA.out (w.heap.size+5) (.int .i64 0) (.int .i64 0) (.int .i64 0) (.string ⟨#[]⟩) (by omega)
     have RS:=(H.out).keeps (keeps_set4g _ (w.heap.size+5) (.int .i64 0) (.int .i64 0) (.int .i64 0) (.string ⟨#[]⟩)) (fun e=>by have e:s=w.heap.size+5:=e;omega) (fun e=>by have e:b=w.heap.size+5:=e;omega) (fun e=>by have e:bb=w.heap.size+5:=e;omega)
     exact bodyPost_ret (v:=.tuple #[Wd.none.val,(.int .i64 (-16))]) (by simp [results,Tryz.results82,go_sem,Wd.val,Wd.none,g0,g1,g2,g3]) rfl ⟨rfl,RS,by first | exact KS | exact KS.mono (fun _ _ e=>e.elim)⟩
 · obtain ⟨q0,q1,q2,q3,q4,q5,q6,t0,t1,t2,t3,t4,t5,t6,z0,z1,z2,z3,z4,z5,z6,zf⟩:=Sp.create_steps x l name fl cd hbad
   generalize x.create l name fl cd=r at z0 z1 z2 z3 z4 z5 z6 zf ⊢;have d1:(name == [])=false:=by simp;exact fun e=>hbad (.inl e)
   have hlen:name.length≤31:=by omega
   have hd:(name.length:Int)≤31:=by omega
   have d2:decide ((31:Int)<(name.length:Int))=false:=decide_eq_false (by omega)
   have HLW:=h_ fun V=>intern_lower V name (by omega)
   have HC:=h_ fun V (k:Keeps (fun _=>False) wa V)=>mem_cell V b bb x.mem l ((H.out.keeps k id id id).mem)
   have HLT:=h_ hlt;clear hbad hlt;generalize x.mem.cell l=q at HC t0 t1;obtain ⟨lk,e0⟩:=q;simp only at HC t0 t1
   have HC0:=h_ t0;have T1:=h_ t1;have T2:=h_ t2;have T3:=h_ t3;have T4:=h_ t4;have T5:=h_ t5;have T6:=h_ t6;have Z0:=h_ z0;have Z1:=h_ z1;have Z2:=h_ z2;have Z3:=h_ z3;have Z4:=h_ z4;have Z5:=h_ z5;have Z6:=h_ z6;have ZF:=h_ zf;clear t0 t1 t2 t3 t4 t5 t6 z0 z1 z2 z3 z4 z5 z6 zf;have s0:=H.out.c0
   go_enter Tryz.func82,Tryz.ntmps82
   go_upto_region 1 with fail;rw [HW.out];clear HW;go_wp2_with fail;refine (sp_here wa s b bb x H.out).mono ?_;rintro e w1 ⟨rfl,rfl⟩;have LA:=h_ (show ((wa.alloc (.cells #[.int .i64 lk] 2)).drew).heap[w.heap.size+6]?=some (.cells #[.int .i64 lk] 2 (0,0)) by rw [← hsz];exact halloc_at wa _)
   have LK:=h_ ((ka_ wa (.cells #[.int .i64 lk] 2)).trans (Keeps.drew _ _));go_upto_region 6 with fail
   go_cut [13,14] (fun v13 v14 wx=>∃ g:Nat,v13=.pointer (some ⟨g,0,none⟩)∧v14=.int .i64 e0∧wx.heap[g]?=some (.cells #[.int .i64 lk] 2 (0,0))∧wa.heap.size≤g∧Keeps (fun _=>False) wa wx)
   case first =>
    go_region_held3 (fun w'=>w'.cell? ⟨w.heap.size,0,none⟩=some (.pointer (some ⟨s,0,none⟩))∧w'.cell? ⟨w.heap.size+1,0,none⟩=some (.int .i64 l)∧w'.cell? ⟨s,0,none⟩=some (.pointer (some ⟨b,0,none⟩)))
     (first | go_keep)
     ((go_at_call 81;refine (HC.out _ (by first | exact Keeps.drew _ _ | exact (Keeps.drew _ _).trans (Keeps.alloc _ _ _))).mono ?_;rintro e w4 ⟨rfl,rfl⟩;dsimp only))
    all_goals
     go_wp2_with fail
     go_meet
     exact ⟨w.heap.size+6,rfl,rfl,LA.out,by omega,LK.out⟩
   case rest =>
    obtain ⟨g,rfl,rfl,hg,hgl,kc⟩:=hcut;have KC:=h_ kc;have G13:=h_ hg;clear hg kc;have c5:wc.cell? ⟨w.heap.size,0,none⟩=some (.pointer (some ⟨s,0,none⟩)):=KC.out.cell c5 id;have c7:wc.cell? ⟨w.heap.size+2,0,none⟩=some (.string ⟨name.toArray⟩):=KC.out.cell c7 id;have c8:wc.cell? ⟨w.heap.size+3,0,none⟩=some (.int .i64 fl):=KC.out.cell c8 id;have hcs:=KC.out.size;have n8:wc.heap.size≠w.heap.size+3:=by omega
    have n7:wc.heap.size≠w.heap.size+2:=by omega
    have n8':w.heap.size+3≠wc.heap.size:=by omega
    have n7':w.heap.size+2≠wc.heap.size:=by omega
    go_upto_region 7 with fail
    go_cut [15] (fun v15 wx=>∃ g2:Nat,v15=.pointer (some ⟨g2,0,none⟩)∧WdCells g2 0 0 fl (lower name) wx∧wa.heap.size≤g2∧g≠g2∧Keeps (fun _=>False) wc wx)
    case first =>
     go_region_held3 (fun w'=>w'.cell? ⟨w.heap.size+3,0,none⟩=some (.int .i64 fl)∧w'.cell? ⟨w.heap.size+2,0,none⟩=some (.string ⟨name.toArray⟩))
      (first | go_keep)
      (first
        | (go_at_call 94;refine (HLW.out (wc.alloc (.cells #[.int .i64 0,.int .i64 0,.int .i64 0,.string ⟨#[]⟩] 53)).drew).mono ?_;rintro e w4 ⟨rfl,k4⟩;dsimp only
           have e8:w4.cell? ⟨w.heap.size+3,0,none⟩=some (.int .i64 fl):=k4.cell ((ka_ wc (.cells #[.int .i64 0,.int .i64 0,.int .i64 0,.string ⟨#[]⟩] 53)).cell c8 id) id;have e7:w4.cell? ⟨w.heap.size+2,0,none⟩=some (.string ⟨name.toArray⟩):=k4.cell ((ka_ wc (.cells #[.int .i64 0,.int .i64 0,.int .i64 0,.string ⟨#[]⟩] 53)).cell c7 id) id;have hz:=k4.heap (show ((wc.alloc (.cells #[.int .i64 0,.int .i64 0,.int .i64 0,.string ⟨#[]⟩] 53)).drew).heap[wc.heap.size]?=_ from halloc_at wc _) id
           have z0:w4.cell? ⟨wc.heap.size,0,none⟩=some (.int .i64 0):=cell_of hz rfl;have z1:w4.cell? ⟨wc.heap.size,1,none⟩=some (.int .i64 0):=cell_of hz rfl;have z2:w4.cell? ⟨wc.heap.size,2,none⟩=some (.int .i64 0):=cell_of hz rfl;have z3:w4.cell? ⟨wc.heap.size,3,none⟩=some (.string ⟨#[]⟩):=cell_of hz rfl;have q0:=free_of (i:=0) hz;have q1:=free_of (i:=1) hz;have q2:=free_of (i:=2) hz
           have q3:=free_of (i:=3) hz)
        | (go_at_call 94;refine (HLW.out wc.drew).mono ?_;rintro e w4 ⟨rfl,k4⟩;dsimp only
           have e8:w4.cell? ⟨w.heap.size+3,0,none⟩=some (.int .i64 fl):=k4.cell c8 id
           have e7:w4.cell? ⟨w.heap.size+2,0,none⟩=some (.string ⟨name.toArray⟩):=k4.cell c7 id))
     all_goals
      have hg2:=lt_of_heap G13.out;go_wp2_with fail
      go_meet
      refine ⟨_,rfl,?_⟩
      first
       | (have hB:=set4 hz (.int .i64 0) (.int .i64 0) (.int .i64 fl) (.string ⟨(lower name).toArray⟩)
          have kB:=keeps_set4 ((ka_ wc (.cells #[.int .i64 0,.int .i64 0,.int .i64 0,.string ⟨#[]⟩] 53)).trans ((kd_ _).trans k4)) wc.heap.size (.int .i64 0) (.int .i64 0) (.int .i64 fl) (.string ⟨(lower name).toArray⟩) (Nat.le_refl _)
          exact ⟨hB,by omega,by omega,kB⟩)
       | (have hs4:wc.heap.size≤w4.heap.size:=k4.size
          have kA:=((kd_ wc).trans k4).trans (ka_ w4 (.cells #[.int .i64 0,.int .i64 0,.int .i64 fl,.string ⟨(lower name).toArray⟩] 53));have hA:=halloc_at w4 (.cells #[.int .i64 0,.int .i64 0,.int .i64 fl,.string ⟨(lower name).toArray⟩] 53)
          exact ⟨hA,by omega,by omega,kA⟩)
    case rest =>
     obtain ⟨g2,rfl,hw2,hg2,hgg,kc2⟩:=hcut;have KC2:=h_ (KC.out.trans kc2);have W2:=h_ hw2;have G2:=h_ (kc2.heap G13.out id);have hS:Hid (RSp wc s b bb x):=h_ (H.out.keeps KC2.out id id id);have c5:wc.cell? ⟨w.heap.size,0,none⟩=some (.pointer (some ⟨s,0,none⟩)):=kc2.cell c5 id;clear hw2 kc2 n8 n7 n8' n7'
     go_upto_if 46 with fail
     go_cut [14] (fun v14 wx=>v14=.int .i64 q0.2∧RSp wx s b bb q0.1∧Keeps (fun k=>k=s∨k=bb) wc wx)
     case first =>
      by_cases he:e0=0
      · have hq:=HC0.out
        rw [if_pos he] at hq;have he':(e0 == 0)=true:=by simp [he]
        have HQ:=h_ hq;clear hq he;go_wp2_with fail;refine (sp_align wc s b bb x hS.out).mono ?_;rintro e w5 ⟨rfl,r5,k5⟩;have R5:=h_ r5;have K5:=h_ k5;clear r5 k5;go_wp2_with fail
        go_meet
        rw [HQ.out];exact ⟨rfl,R5.out,K5.out⟩
      · have hq:=HC0.out
        rw [if_neg he] at hq;have he':(e0 == 0)=false:=by simp [he]
        have HQ:=h_ hq;clear hq he;go_wp2_with fail
        go_meet
        rw [HQ.out];exact ⟨rfl,hS.out,Keeps.refl _ _⟩
     case rest =>
      obtain ⟨rfl,r6,k6⟩:=hcut;have hlt:=HLT.out;have hwz:=KA.out.size;have KB:=h_ ((KC2.out.mono (T:=fun k=>k=s∨k=bb) (fun _ _ e=>e.elim)).trans k6)
      have RW:=h_ r6;have WG:=h_ (show WdCells g2 0 0 fl (lower name) wc from k6.heap W2.out (fun e=>by rcases e with e | e <;> omega))
      have G3:=h_ (show wc.heap[g]?=some (.cells #[.int .i64 lk] 2 (0,0)) from k6.heap G2.out (fun e=>by rcases e with e | e <;> omega))
      have hB5:wc.cell? ⟨w.heap.size,0,none⟩=some (.pointer (some ⟨s,0,none⟩)):=cell_of (KB.out.heap X5.out (fun e=>by rcases e with e | e <;> omega)) rfl
      have y0:wc.cell? ⟨g2,0,none⟩=some (.int .i64 0):=cell_of WG.out rfl;have y1:=free_of (i:=0) WG.out;clear r6 k6 c5 hB5;have hB5:wc.cell? ⟨w.heap.size,0,none⟩=some (.pointer (some ⟨s,0,none⟩)):=cell_of (KB.out.heap X5.out (fun e=>by rcases e with e | e <;> omega)) rfl
      have hmf:=hmf;have KD:=h_ ((KB.out.mono (T:=fun k=>k=s∨k=bb∨k=g2) (fun _ _ e=>by rcases e with e | e;exact .inl e;exact .inr (.inl e))).trans (Keeps.setCell wc ⟨g2,0,none⟩ (.int .i64 q0.1.here) (fun _=>.inr (.inr rfl))))
      have RD:=h_ (RW.out.keeps (Keeps.setCell (S:=fun k=>k=g2) wc ⟨g2,0,none⟩ (.int .i64 q0.1.here) (fun _=>rfl)) (fun e=>by have e:s=g2:=e;omega) (fun e=>by have e:b=g2:=e;omega) (fun e=>by have e:bb=g2:=e;omega))
      have WD:=h_ (show WdCells g2 q0.1.here 0 fl (lower name) (wc.setCell ⟨g2,0,none⟩ (.int .i64 q0.1.here)) from hset_same WG.out _)
      have GD:=h_ (show (wc.setCell ⟨g2,0,none⟩ (.int .i64 q0.1.here)).heap[g]?=some (.cells #[.int .i64 lk] 2 (0,0)) from (hset_other (by omega) _).trans G3.out)
      go_wp2_with fail;refine (sp_here wc s b bb _ RW.out).mono ?_;rintro e w6 ⟨rfl,rfl⟩;go_wp2_with fail
      change Code.wp _ _ _ _ ((wc.setCell ⟨g2,0,none⟩ (.int .i64 q0.1.here)).alloc (.cells (putV w.heap.size g s g2) 80))
      have hgg2:=lt_of_heap WG.out;have hgg1:=lt_of_heap G3.out;obtain ⟨gp,hgp⟩:∃ gp,gp=wc.heap.size:=⟨_,rfl⟩;rw [← hgp] at hgg2 hgg1 ⊢;have HGP:=h_ hgp;clear hgp;have KA2:=h_ (ka_ (wc.setCell ⟨g2,0,none⟩ (.int .i64 q0.1.here)) (.cells (putV w.heap.size g s g2) 80))
      have SL:=h_ (show ((wc.setCell ⟨g2,0,none⟩ (.int .i64 q0.1.here)).alloc (.cells (putV w.heap.size g s g2) 80)).heap[gp]?=some (.cells (putV w.heap.size g s g2) 80 (0,0)) by
       have:=halloc_at (wc.setCell ⟨g2,0,none⟩ (.int .i64 q0.1.here)) (.cells (putV w.heap.size g s g2) 80);rw [show (wc.setCell ⟨g2,0,none⟩ (.int .i64 q0.1.here)).heap.size=gp by rw [HGP.out];simp] at this
       exact this)
      generalize hW:(wc.setCell ⟨g2,0,none⟩ (.int .i64 q0.1.here)).alloc (.cells (putV w.heap.size g s g2) 80)=W at KA2 SL ⊢;clear hW;have KQ:=KD.out.trans (KA2.out.mono (fun _ _ e=>e.elim))
      have nx:∀ k,w.heap.size≤k∧k≤w.heap.size+5→¬ (k=s∨k=bb∨k=g2):=fun k hk e=>by rcases e with e | e | e <;> omega
      have BX:=h_ (show Boxes w.heap.size s g g2 gp l fl cd lk name W from ⟨KQ.heap X5.out (nx _ (by omega)),KQ.heap X6.out (nx _ (by omega)),KQ.heap X7.out (nx _ (by omega)),KQ.heap X8.out (nx _ (by omega)),KQ.heap X9.out (nx _ (by omega)),KQ.heap AA.out (nx _ (by omega)),KA2.out.heap GD.out id,SL.out⟩)
      have KW:=h_ ((KA.out.mono (T:=fun k=>k=s∨k=bb) (fun _ _ e=>e.elim)).trans' KQ (fun i hi e=>by rcases e with e | e | e;exact .inl e;exact .inr e;omega))
      replace RW:=h_ (RD.out.keeps KA2.out id id id);replace WG:=h_ (show WdCells g2 q0.1.here 0 fl (lower name) W from KA2.out.heap WD.out id)
      clear KQ nx KD RD WD GD KA2 SL KB G3 KC KC2 W2 G2 hS G13 y0 y1 hB5 a0 a1 a2 a3 b0 b1 b2 b3 c6 c9 HC HLW LA LK;refine wp_loop_rounds 7 ?_;rw [rounds_succ];have cc:W.cell? ⟨gp,0,none⟩=some (.func (.func 148) #[] #[Pt w.heap.size,Pt g]):=cell_of BX.out.ep rfl;by_cases he:q0.2=0
      rotate_left
      · have dd:((q0).2 != 0)=true:=by simp [he]
        have hr:=(Z0).out he;subst hr;have cs:W.cell? ⟨w.heap.size,0,none⟩=some (.pointer (some ⟨s,0,none⟩)):=cell_of BX.out.e0 rfl;clear he;go_wp2_with fail;refine (sp_back W s b bb _ x.here RW.out).mono ?_;rintro e W' ⟨rfl,rb,kb⟩;have BB:=h_ (BX.out.keeps kb (fun k hk e=>by rcases e with e | e <;> omega))
        have KK:=h_ (KW.out.trans kb);have RR:=h_ rb;have a0:W'.cell? ⟨w.heap.size+5,0,none⟩=some (.int .i64 0):=cell_of BB.out.e5 rfl;have a1:W'.cell? ⟨w.heap.size+5,1,none⟩=some (.int .i64 0):=cell_of BB.out.e5 rfl;have a2:W'.cell? ⟨w.heap.size+5,2,none⟩=some (.int .i64 0):=cell_of BB.out.e5 rfl;have a3:W'.cell? ⟨w.heap.size+5,3,none⟩=some (.string ⟨#[]⟩):=cell_of BB.out.e5 rfl;have b0:=free_of (i:=0) BB.out.e5;have b1:=free_of (i:=1) BB.out.e5;have b2:=free_of (i:=2) BB.out.e5;have b3:=free_of (i:=3) BB.out.e5;clear rb kb cs;go_wp2_with fail;have hB:=set4 BB.out.e5 (.int .i64 0) (.int .i64 0) (.int .i64 0) (.string ⟨#[]⟩);have g0:=cell_of (i:=0) hB rfl;have g1:=cell_of (i:=1) hB rfl;have g2:=cell_of (i:=2) hB rfl;have g3:=cell_of (i:=3) hB rfl;have KS:=keeps_set4 KK.out (w.heap.size+5) (.int .i64 0) (.int .i64 0) (.int .i64 0) (.string ⟨#[]⟩) (by omega)
        have RS:=(RR.out).keeps (keeps_set4g _ (w.heap.size+5) (.int .i64 0) (.int .i64 0) (.int .i64 0) (.string ⟨#[]⟩)) (fun e=>by have e:s=w.heap.size+5:=e;omega) (fun e=>by have e:b=w.heap.size+5:=e;omega) (fun e=>by have e:bb=w.heap.size+5:=e;omega)
        exact bodyPost_ret (v:=.tuple #[Wd.none.val,(.int .i64 (q0).2)]) (by simp [results,Tryz.results82,go_sem,Wd.val,Wd.none,g0,g1,g2,g3]) rfl ⟨rfl,RS,by first | exact KS | exact KS.mono (fun _ _ e=>e.elim)⟩
      have dd:(q0.2 != 0)=false:=by simp [he]
      have hq:=h_ (T1.out he);clear he;go_wp2_with fail;refine (head_cr1 W s b bb _ lk w.heap.size g RW.out (cell_of BX.out.e0 rfl) (cell_of BX.out.eg rfl)).mono ?_;rintro e W1 ⟨rfl,r1,k1⟩;rw [← hq.out] at r1 ⊢;replace BX:=h_ (BX.out.keeps k1 (fun k hk e=>by rcases e with e | e <;> omega))
      replace KW:=h_ (KW.out.trans k1);replace WG:=h_ (show WdCells g2 q0.1.here 0 fl (lower name) W1 from k1.heap WG.out (fun e=>by rcases e with e | e <;> omega))
      replace RW:=h_ r1;clear r1 k1 cc dd hq;clear W
      rename World=>W
      go_wp2_with fail;rw [rounds_succ];have cc:W.cell? ⟨gp,1,none⟩=some (.func (.func 149) #[] #[Pt w.heap.size,Pt (w.heap.size+1+1),Pt (w.heap.size+1+1+1)]):=cell_of BX.out.ep rfl;by_cases he:q1.2=0
      rotate_left
      · have dd:((q1).2 != 0)=true:=by simp [he]
        have hr:=(Z1).out he;subst hr;have cs:W.cell? ⟨w.heap.size,0,none⟩=some (.pointer (some ⟨s,0,none⟩)):=cell_of BX.out.e0 rfl;clear he;go_wp2_with fail;refine (sp_back W s b bb _ x.here RW.out).mono ?_;rintro e W' ⟨rfl,rb,kb⟩;have BB:=h_ (BX.out.keeps kb (fun k hk e=>by rcases e with e | e <;> omega))
        have KK:=h_ (KW.out.trans kb);have RR:=h_ rb;have a0:W'.cell? ⟨w.heap.size+5,0,none⟩=some (.int .i64 0):=cell_of BB.out.e5 rfl;have a1:W'.cell? ⟨w.heap.size+5,1,none⟩=some (.int .i64 0):=cell_of BB.out.e5 rfl;have a2:W'.cell? ⟨w.heap.size+5,2,none⟩=some (.int .i64 0):=cell_of BB.out.e5 rfl;have a3:W'.cell? ⟨w.heap.size+5,3,none⟩=some (.string ⟨#[]⟩):=cell_of BB.out.e5 rfl;have b0:=free_of (i:=0) BB.out.e5;have b1:=free_of (i:=1) BB.out.e5;have b2:=free_of (i:=2) BB.out.e5;have b3:=free_of (i:=3) BB.out.e5;clear rb kb cs;go_wp2_with fail;have hB:=set4 BB.out.e5 (.int .i64 0) (.int .i64 0) (.int .i64 0) (.string ⟨#[]⟩);have g0:=cell_of (i:=0) hB rfl;have g1:=cell_of (i:=1) hB rfl;have g2:=cell_of (i:=2) hB rfl;have g3:=cell_of (i:=3) hB rfl;have KS:=keeps_set4 KK.out (w.heap.size+5) (.int .i64 0) (.int .i64 0) (.int .i64 0) (.string ⟨#[]⟩) (by omega)
        have RS:=(RR.out).keeps (keeps_set4g _ (w.heap.size+5) (.int .i64 0) (.int .i64 0) (.int .i64 0) (.string ⟨#[]⟩)) (fun e=>by have e:s=w.heap.size+5:=e;omega) (fun e=>by have e:b=w.heap.size+5:=e;omega) (fun e=>by have e:bb=w.heap.size+5:=e;omega)
        exact bodyPost_ret (v:=.tuple #[Wd.none.val,(.int .i64 (q1).2)]) (by simp [results,Tryz.results82,go_sem,Wd.val,Wd.none,g0,g1,g2,g3]) rfl ⟨rfl,RS,by first | exact KS | exact KS.mono (fun _ _ e=>e.elim)⟩
      have dd:(q1.2 != 0)=false:=by simp [he]
      have hq:=h_ (T2.out he);clear he;go_wp2_with fail;refine (head_cr2 W s b bb _ name fl w.heap.size (w.heap.size+1+1) (w.heap.size+1+1+1) RW.out (cell_of BX.out.e0 rfl) (cell_of BX.out.e2 rfl) (cell_of BX.out.e3 rfl) hlen f0 f1).mono ?_;rintro e W1 ⟨rfl,r1,k1⟩;rw [← hq.out] at r1 ⊢;replace BX:=h_ (BX.out.keeps k1 (fun k hk e=>by rcases e with e | e <;> omega))
      replace KW:=h_ (KW.out.trans k1);replace WG:=h_ (show WdCells g2 q0.1.here 0 fl (lower name) W1 from k1.heap WG.out (fun e=>by rcases e with e | e <;> omega))
      replace RW:=h_ r1;clear r1 k1 cc dd hq;clear W
      rename World=>W
      go_wp2_with fail;rw [rounds_succ];have cc:W.cell? ⟨gp,2,none⟩=some (.func (.func 150) #[] #[Pt w.heap.size,Pt g2]):=cell_of BX.out.ep rfl;by_cases he:q2.2=0
      rotate_left
      · have dd:((q2).2 != 0)=true:=by simp [he]
        have hr:=(Z2).out he;subst hr;have cs:W.cell? ⟨w.heap.size,0,none⟩=some (.pointer (some ⟨s,0,none⟩)):=cell_of BX.out.e0 rfl;clear he;go_wp2_with fail;refine (sp_back W s b bb _ x.here RW.out).mono ?_;rintro e W' ⟨rfl,rb,kb⟩;have BB:=h_ (BX.out.keeps kb (fun k hk e=>by rcases e with e | e <;> omega))
        have KK:=h_ (KW.out.trans kb);have RR:=h_ rb;have a0:W'.cell? ⟨w.heap.size+5,0,none⟩=some (.int .i64 0):=cell_of BB.out.e5 rfl;have a1:W'.cell? ⟨w.heap.size+5,1,none⟩=some (.int .i64 0):=cell_of BB.out.e5 rfl;have a2:W'.cell? ⟨w.heap.size+5,2,none⟩=some (.int .i64 0):=cell_of BB.out.e5 rfl;have a3:W'.cell? ⟨w.heap.size+5,3,none⟩=some (.string ⟨#[]⟩):=cell_of BB.out.e5 rfl;have b0:=free_of (i:=0) BB.out.e5;have b1:=free_of (i:=1) BB.out.e5;have b2:=free_of (i:=2) BB.out.e5;have b3:=free_of (i:=3) BB.out.e5;clear rb kb cs;go_wp2_with fail;have hB:=set4 BB.out.e5 (.int .i64 0) (.int .i64 0) (.int .i64 0) (.string ⟨#[]⟩);have g0:=cell_of (i:=0) hB rfl;have g1:=cell_of (i:=1) hB rfl;have g2:=cell_of (i:=2) hB rfl;have g3:=cell_of (i:=3) hB rfl;have KS:=keeps_set4 KK.out (w.heap.size+5) (.int .i64 0) (.int .i64 0) (.int .i64 0) (.string ⟨#[]⟩) (by omega)
        have RS:=(RR.out).keeps (keeps_set4g _ (w.heap.size+5) (.int .i64 0) (.int .i64 0) (.int .i64 0) (.string ⟨#[]⟩)) (fun e=>by have e:s=w.heap.size+5:=e;omega) (fun e=>by have e:b=w.heap.size+5:=e;omega) (fun e=>by have e:bb=w.heap.size+5:=e;omega)
        exact bodyPost_ret (v:=.tuple #[Wd.none.val,(.int .i64 (q2).2)]) (by simp [results,Tryz.results82,go_sem,Wd.val,Wd.none,g0,g1,g2,g3]) rfl ⟨rfl,RS,by first | exact KS | exact KS.mono (fun _ _ e=>e.elim)⟩
      have dd:(q2.2 != 0)=false:=by simp [he]
      have hq:=h_ (T3.out he);clear he;go_wp2_with fail;refine (head_cr3 W s b bb _ _ _ _ (lower name) w.heap.size g2 RW.out (cell_of BX.out.e0 rfl) WG.out (by unfold lower;rw [List.length_map];exact hlen)).mono ?_
      rintro e W1 ⟨rfl,r1,k1⟩;rw [← hq.out] at r1 ⊢;replace BX:=h_ (BX.out.keeps k1 (fun k hk e=>by rcases e with e | e <;> omega))
      replace KW:=h_ (KW.out.trans k1);replace WG:=h_ (show WdCells g2 q0.1.here 0 fl (lower name) W1 from k1.heap WG.out (fun e=>by rcases e with e | e <;> omega))
      replace RW:=h_ r1;clear r1 k1 cc dd hq;clear W
      rename World=>W
      go_wp2_with fail;rw [rounds_succ];have cc:W.cell? ⟨gp,3,none⟩=some (.func (.func 147) #[Pt s] #[]):=cell_of BX.out.ep rfl;by_cases he:q3.2=0
      rotate_left
      · have dd:((q3).2 != 0)=true:=by simp [he]
        have hr:=(Z3).out he;subst hr;have cs:W.cell? ⟨w.heap.size,0,none⟩=some (.pointer (some ⟨s,0,none⟩)):=cell_of BX.out.e0 rfl;clear he;go_wp2_with fail;refine (sp_back W s b bb _ x.here RW.out).mono ?_;rintro e W' ⟨rfl,rb,kb⟩;have BB:=h_ (BX.out.keeps kb (fun k hk e=>by rcases e with e | e <;> omega))
        have KK:=h_ (KW.out.trans kb);have RR:=h_ rb;have a0:W'.cell? ⟨w.heap.size+5,0,none⟩=some (.int .i64 0):=cell_of BB.out.e5 rfl;have a1:W'.cell? ⟨w.heap.size+5,1,none⟩=some (.int .i64 0):=cell_of BB.out.e5 rfl;have a2:W'.cell? ⟨w.heap.size+5,2,none⟩=some (.int .i64 0):=cell_of BB.out.e5 rfl;have a3:W'.cell? ⟨w.heap.size+5,3,none⟩=some (.string ⟨#[]⟩):=cell_of BB.out.e5 rfl;have b0:=free_of (i:=0) BB.out.e5;have b1:=free_of (i:=1) BB.out.e5;have b2:=free_of (i:=2) BB.out.e5;have b3:=free_of (i:=3) BB.out.e5;clear rb kb cs;go_wp2_with fail;have hB:=set4 BB.out.e5 (.int .i64 0) (.int .i64 0) (.int .i64 0) (.string ⟨#[]⟩);have g0:=cell_of (i:=0) hB rfl;have g1:=cell_of (i:=1) hB rfl;have g2:=cell_of (i:=2) hB rfl;have g3:=cell_of (i:=3) hB rfl;have KS:=keeps_set4 KK.out (w.heap.size+5) (.int .i64 0) (.int .i64 0) (.int .i64 0) (.string ⟨#[]⟩) (by omega)
        have RS:=(RR.out).keeps (keeps_set4g _ (w.heap.size+5) (.int .i64 0) (.int .i64 0) (.int .i64 0) (.string ⟨#[]⟩)) (fun e=>by have e:s=w.heap.size+5:=e;omega) (fun e=>by have e:b=w.heap.size+5:=e;omega) (fun e=>by have e:bb=w.heap.size+5:=e;omega)
        exact bodyPost_ret (v:=.tuple #[Wd.none.val,(.int .i64 (q3).2)]) (by simp [results,Tryz.results82,go_sem,Wd.val,Wd.none,g0,g1,g2,g3]) rfl ⟨rfl,RS,by first | exact KS | exact KS.mono (fun _ _ e=>e.elim)⟩
      have dd:(q3.2 != 0)=false:=by simp [he]
      have hq:=h_ (T4.out he);clear he;go_wp2_with fail;refine (sp_align W s b bb _ RW.out).mono ?_;rintro e W1 ⟨rfl,r1,k1⟩;rw [← hq.out] at r1 ⊢;replace BX:=h_ (BX.out.keeps k1 (fun k hk e=>by rcases e with e | e <;> omega))
      replace KW:=h_ (KW.out.trans k1);replace WG:=h_ (show WdCells g2 q0.1.here 0 fl (lower name) W1 from k1.heap WG.out (fun e=>by rcases e with e | e <;> omega))
      replace RW:=h_ r1;clear r1 k1 cc dd hq;clear W
      rename World=>W
      go_wp2_with fail;rw [rounds_succ];have cc:W.cell? ⟨gp,4,none⟩=some (.func (.func 152) #[] #[Pt w.heap.size,Pt g2,Pt (w.heap.size+1+1+1+1)]):=cell_of BX.out.ep rfl;by_cases he:q4.2=0
      rotate_left
      · have dd:((q4).2 != 0)=true:=by simp [he]
        have hr:=(Z4).out he;subst hr;have cs:W.cell? ⟨w.heap.size,0,none⟩=some (.pointer (some ⟨s,0,none⟩)):=cell_of BX.out.e0 rfl;clear he;go_wp2_with fail;refine (sp_back W s b bb _ x.here RW.out).mono ?_;rintro e W' ⟨rfl,rb,kb⟩;have BB:=h_ (BX.out.keeps kb (fun k hk e=>by rcases e with e | e <;> omega))
        have KK:=h_ (KW.out.trans kb);have RR:=h_ rb;have a0:W'.cell? ⟨w.heap.size+5,0,none⟩=some (.int .i64 0):=cell_of BB.out.e5 rfl;have a1:W'.cell? ⟨w.heap.size+5,1,none⟩=some (.int .i64 0):=cell_of BB.out.e5 rfl;have a2:W'.cell? ⟨w.heap.size+5,2,none⟩=some (.int .i64 0):=cell_of BB.out.e5 rfl;have a3:W'.cell? ⟨w.heap.size+5,3,none⟩=some (.string ⟨#[]⟩):=cell_of BB.out.e5 rfl;have b0:=free_of (i:=0) BB.out.e5;have b1:=free_of (i:=1) BB.out.e5;have b2:=free_of (i:=2) BB.out.e5;have b3:=free_of (i:=3) BB.out.e5;clear rb kb cs;go_wp2_with fail;have hB:=set4 BB.out.e5 (.int .i64 0) (.int .i64 0) (.int .i64 0) (.string ⟨#[]⟩);have g0:=cell_of (i:=0) hB rfl;have g1:=cell_of (i:=1) hB rfl;have g2:=cell_of (i:=2) hB rfl;have g3:=cell_of (i:=3) hB rfl;have KS:=keeps_set4 KK.out (w.heap.size+5) (.int .i64 0) (.int .i64 0) (.int .i64 0) (.string ⟨#[]⟩) (by omega)
        have RS:=(RR.out).keeps (keeps_set4g _ (w.heap.size+5) (.int .i64 0) (.int .i64 0) (.int .i64 0) (.string ⟨#[]⟩)) (fun e=>by have e:s=w.heap.size+5:=e;omega) (fun e=>by have e:b=w.heap.size+5:=e;omega) (fun e=>by have e:bb=w.heap.size+5:=e;omega)
        exact bodyPost_ret (v:=.tuple #[Wd.none.val,(.int .i64 (q4).2)]) (by simp [results,Tryz.results82,go_sem,Wd.val,Wd.none,g0,g1,g2,g3]) rfl ⟨rfl,RS,by first | exact KS | exact KS.mono (fun _ _ e=>e.elim)⟩
      have dd:(q4.2 != 0)=false:=by simp [he]
      have hq:=h_ (T5.out he);clear he;go_wp2_with fail;refine (head_cr4 W s b bb _ _ _ _ cd (lower name) w.heap.size g2 (w.heap.size+1+1+1+1) RW.out (cell_of BX.out.e0 rfl) WG.out (cell_of BX.out.e4 rfl) (by omega) (by omega) (by omega) (by omega) (by omega)).mono ?_
      rintro e W1 ⟨rfl,r1,g1,k1⟩;rw [← hq.out] at r1 ⊢;replace BX:=h_ (BX.out.keeps k1 (fun k hk e=>by rcases e with e | e | e <;> omega))
      replace KW:=h_ (KW.out.trans' k1 (fun i hi e=>by rcases e with e | e | e;exact .inl e;exact .inr e;omega))
      replace WG:=h_ (show WdCells g2 q0.1.here q4.1.here fl (lower name) W1 from g1)
      replace RW:=h_ r1;clear r1 k1 g1 cc dd hq W
      rename World=>W
      go_wp2_with fail;rw [rounds_succ];have cc:W.cell? ⟨gp,5,none⟩=some (.func (.func 153) #[] #[Pt w.heap.size,Pt (w.heap.size+1),Pt g2]):=cell_of BX.out.ep rfl;by_cases he:q5.2=0
      rotate_left
      · have dd:((q5).2 != 0)=true:=by simp [he]
        have hr:=(Z5).out he;subst hr;have cs:W.cell? ⟨w.heap.size,0,none⟩=some (.pointer (some ⟨s,0,none⟩)):=cell_of BX.out.e0 rfl;clear he;go_wp2_with fail;refine (sp_back W s b bb _ x.here RW.out).mono ?_;rintro e W' ⟨rfl,rb,kb⟩;have BB:=h_ (BX.out.keeps kb (fun k hk e=>by rcases e with e | e <;> omega))
        have KK:=h_ (KW.out.trans kb);have RR:=h_ rb;have a0:W'.cell? ⟨w.heap.size+5,0,none⟩=some (.int .i64 0):=cell_of BB.out.e5 rfl;have a1:W'.cell? ⟨w.heap.size+5,1,none⟩=some (.int .i64 0):=cell_of BB.out.e5 rfl;have a2:W'.cell? ⟨w.heap.size+5,2,none⟩=some (.int .i64 0):=cell_of BB.out.e5 rfl;have a3:W'.cell? ⟨w.heap.size+5,3,none⟩=some (.string ⟨#[]⟩):=cell_of BB.out.e5 rfl;have b0:=free_of (i:=0) BB.out.e5;have b1:=free_of (i:=1) BB.out.e5;have b2:=free_of (i:=2) BB.out.e5;have b3:=free_of (i:=3) BB.out.e5;clear rb kb cs;go_wp2_with fail;have hB:=set4 BB.out.e5 (.int .i64 0) (.int .i64 0) (.int .i64 0) (.string ⟨#[]⟩);have g0:=cell_of (i:=0) hB rfl;have g1:=cell_of (i:=1) hB rfl;have g2:=cell_of (i:=2) hB rfl;have g3:=cell_of (i:=3) hB rfl;have KS:=keeps_set4 KK.out (w.heap.size+5) (.int .i64 0) (.int .i64 0) (.int .i64 0) (.string ⟨#[]⟩) (by omega)
        have RS:=(RR.out).keeps (keeps_set4g _ (w.heap.size+5) (.int .i64 0) (.int .i64 0) (.int .i64 0) (.string ⟨#[]⟩)) (fun e=>by have e:s=w.heap.size+5:=e;omega) (fun e=>by have e:b=w.heap.size+5:=e;omega) (fun e=>by have e:bb=w.heap.size+5:=e;omega)
        exact bodyPost_ret (v:=.tuple #[Wd.none.val,(.int .i64 (q5).2)]) (by simp [results,Tryz.results82,go_sem,Wd.val,Wd.none,g0,g1,g2,g3]) rfl ⟨rfl,RS,by first | exact KS | exact KS.mono (fun _ _ e=>e.elim)⟩
      have dd:(q5.2 != 0)=false:=by simp [he]
      have hq:=h_ (T6.out he);clear he;go_wp2_with fail;refine (head_cr5 W s b bb _ _ _ _ l (lower name) w.heap.size (w.heap.size+1) g2 RW.out (cell_of BX.out.e0 rfl) WG.out (cell_of BX.out.e1 rfl)).mono ?_;rintro e W1 ⟨rfl,r1,k1⟩;rw [← hq.out] at r1 ⊢;replace BX:=h_ (BX.out.keeps k1 (fun k hk e=>by rcases e with e | e <;> omega))
      replace KW:=h_ (KW.out.trans k1);replace WG:=h_ (show WdCells g2 q0.1.here q4.1.here fl (lower name) W1 from k1.heap WG.out (fun e=>by rcases e with e | e <;> omega))
      replace RW:=h_ r1;clear r1 k1 cc dd hq;clear W
      rename World=>W
      go_wp2_with fail;rw [rounds_succ];by_cases he:q6.2=0
      rotate_left
      · have dd:((q6).2 != 0)=true:=by simp [he]
        have hr:=(Z6).out he;subst hr;have cs:W.cell? ⟨w.heap.size,0,none⟩=some (.pointer (some ⟨s,0,none⟩)):=cell_of BX.out.e0 rfl;clear he;go_wp2_with fail;refine (sp_back W s b bb _ x.here RW.out).mono ?_;rintro e W' ⟨rfl,rb,kb⟩;have BB:=h_ (BX.out.keeps kb (fun k hk e=>by rcases e with e | e <;> omega))
        have KK:=h_ (KW.out.trans kb);have RR:=h_ rb;have a0:W'.cell? ⟨w.heap.size+5,0,none⟩=some (.int .i64 0):=cell_of BB.out.e5 rfl;have a1:W'.cell? ⟨w.heap.size+5,1,none⟩=some (.int .i64 0):=cell_of BB.out.e5 rfl;have a2:W'.cell? ⟨w.heap.size+5,2,none⟩=some (.int .i64 0):=cell_of BB.out.e5 rfl;have a3:W'.cell? ⟨w.heap.size+5,3,none⟩=some (.string ⟨#[]⟩):=cell_of BB.out.e5 rfl;have b0:=free_of (i:=0) BB.out.e5;have b1:=free_of (i:=1) BB.out.e5;have b2:=free_of (i:=2) BB.out.e5;have b3:=free_of (i:=3) BB.out.e5;clear rb kb cs;go_wp2_with fail;have hB:=set4 BB.out.e5 (.int .i64 0) (.int .i64 0) (.int .i64 0) (.string ⟨#[]⟩);have g0:=cell_of (i:=0) hB rfl;have g1:=cell_of (i:=1) hB rfl;have g2:=cell_of (i:=2) hB rfl;have g3:=cell_of (i:=3) hB rfl;have KS:=keeps_set4 KK.out (w.heap.size+5) (.int .i64 0) (.int .i64 0) (.int .i64 0) (.string ⟨#[]⟩) (by omega)
        have RS:=(RR.out).keeps (keeps_set4g _ (w.heap.size+5) (.int .i64 0) (.int .i64 0) (.int .i64 0) (.string ⟨#[]⟩)) (fun e=>by have e:s=w.heap.size+5:=e;omega) (fun e=>by have e:b=w.heap.size+5:=e;omega) (fun e=>by have e:bb=w.heap.size+5:=e;omega)
        exact bodyPost_ret (v:=.tuple #[Wd.none.val,(.int .i64 (q6).2)]) (by simp [results,Tryz.results82,go_sem,Wd.val,Wd.none,g0,g1,g2,g3]) rfl ⟨rfl,RS,by first | exact KS | exact KS.mono (fun _ _ e=>e.elim)⟩
      have dd:(q6.2 != 0)=false:=by simp [he]
      have hr:=ZF.out he;subst hr;clear he;have a0:W.cell? ⟨w.heap.size+5,0,none⟩=some (.int .i64 0):=cell_of BX.out.e5 rfl;have a1:W.cell? ⟨w.heap.size+5,1,none⟩=some (.int .i64 0):=cell_of BX.out.e5 rfl;have a2:W.cell? ⟨w.heap.size+5,2,none⟩=some (.int .i64 0):=cell_of BX.out.e5 rfl;have a3:W.cell? ⟨w.heap.size+5,3,none⟩=some (.string ⟨#[]⟩):=cell_of BX.out.e5 rfl;have b0:=free_of (i:=0) BX.out.e5;have b1:=free_of (i:=1) BX.out.e5;have b2:=free_of (i:=2) BX.out.e5;have b3:=free_of (i:=3) BX.out.e5;have y0:W.cell? ⟨g2,0,none⟩=some (.int .i64 q0.1.here):=cell_of WG.out rfl;have y1:W.cell? ⟨g2,1,none⟩=some (.int .i64 q4.1.here):=cell_of WG.out rfl;have y2:W.cell? ⟨g2,2,none⟩=some (.int .i64 fl):=cell_of WG.out rfl;have y3:W.cell? ⟨g2,3,none⟩=some (.string ⟨(lower name).toArray⟩):=cell_of WG.out rfl;go_wp2_with fail;have hB:=set4 BX.out.e5 (.int .i64 q0.1.here) (.int .i64 q4.1.here) (.int .i64 fl) (.string ⟨(lower name).toArray⟩);have g0:=cell_of (i:=0) hB rfl;have g1:=cell_of (i:=1) hB rfl;have g2':=cell_of (i:=2) hB rfl;have g3:=cell_of (i:=3) hB rfl;have KS:=keeps_set4 KW.out (w.heap.size+5) (.int .i64 q0.1.here) (.int .i64 q4.1.here) (.int .i64 fl) (.string ⟨(lower name).toArray⟩) (by omega)
      have RS:=RW.out.keeps (keeps_set4g _ (w.heap.size+5) (.int .i64 q0.1.here) (.int .i64 q4.1.here) (.int .i64 fl) (.string ⟨(lower name).toArray⟩)) (fun e=>by have e:s=w.heap.size+5:=e;omega) (fun e=>by have e:b=w.heap.size+5:=e;omega) (fun e=>by have e:bb=w.heap.size+5:=e;omega)
      exact bodyPost_ret (v:=.tuple #[Wd.val ⟨q0.1.here,q4.1.here,fl,lower name⟩,.int .i64 0]) (by simp [results,Tryz.results82,go_sem,Wd.val,g0,g1,g2',g3]) rfl ⟨rfl,RS,KS⟩
def optP (o:Option Nat):Value:=.pointer (o.map fun n=>⟨n,0,none⟩)
structure Mc where
 sp:Option Nat
 dk:Option Nat
 rk:Option Nat
 hp:Option Nat
 nm:Nat
 ip:Int
 self:Int
 root:Int
 list:Int
 slots:Int
 fuel:Int
 out:List UInt8
 inp:List UInt8
 over:Bool
 base:Int
 caught:Int
 handler:Int
 does:Nat
def Mc.cells (c:Mc):Array Value:=#[optP c.sp,optP c.dk,optP c.rk,optP c.hp,.pointer (some ⟨c.nm,0,none⟩),.int .i64 c.ip,.int .i64 c.self,.int .i64 c.root,.int .i64 c.list,.int .i64 c.slots,.int .i64 c.fuel,
 .string ⟨c.out.toArray⟩,.string ⟨c.inp.toArray⟩,.bool c.over,.int .i64 c.base,.int .i64 c.caught,.int .i64 c.handler,.map (some c.does)]
def RMc (w:World) (g:Nat) (c:Mc):Prop:=w.heap[g]?=some (.cells c.cells 47 (0,0))
theorem RMc.keeps {w w':World} {g:Nat} {c:Mc} (h:RMc w g c) {S:Nat→Prop} (k:Keeps S w w') (n:¬ S g):RMc w' g c:=k.heap h n
theorem RMc.setBase {w:World} {g:Nat} {c:Mc} (h:RMc w g c) (v:Int):RMc (w.setCell ⟨g,14,none⟩ (.int .i64 v)) g { c with base:=v }:=hset_same h _
theorem RMc.setList {w:World} {g:Nat} {c:Mc} (h:RMc w g c) (v:Int):RMc (w.setCell ⟨g,8,none⟩ (.int .i64 v)) g { c with list:=v }:=hset_same h _
theorem RMc.setCaught {w:World} {g:Nat} {c:Mc} (h:RMc w g c) (v:Int):RMc (w.setCell ⟨g,15,none⟩ (.int .i64 v)) g { c with caught:=v }:=hset_same h _
theorem RMc.setRoot {w:World} {g:Nat} {c:Mc} (h:RMc w g c) (v:Int):RMc (w.setCell ⟨g,7,none⟩ (.int .i64 v)) g { c with root:=v }:=hset_same h _
theorem RMc.setSp {w:World} {g:Nat} {c:Mc} (h:RMc w g c) (v:Nat):RMc (w.setCell ⟨g,0,none⟩ (.pointer (some ⟨v,0,none⟩))) g { c with sp:=some v }:=hset_same h _
theorem RMc.setDk {w:World} {g:Nat} {c:Mc} (h:RMc w g c) (v:Nat):RMc (w.setCell ⟨g,1,none⟩ (.pointer (some ⟨v,0,none⟩))) g { c with dk:=some v }:=hset_same h _
theorem RMc.setRk {w:World} {g:Nat} {c:Mc} (h:RMc w g c) (v:Nat):RMc (w.setCell ⟨g,2,none⟩ (.pointer (some ⟨v,0,none⟩))) g { c with rk:=some v }:=hset_same h _
theorem RMc.setHp {w:World} {g:Nat} {c:Mc} (h:RMc w g c) (v:Nat):RMc (w.setCell ⟨g,3,none⟩ (.pointer (some ⟨v,0,none⟩))) g { c with hp:=some v }:=hset_same h _
theorem RMc.free {w:World} {g:Nat} {c:Mc} (h:RMc w g c) (i:Nat):w.frozen? ⟨g,i,none⟩=false:=free_of h
theorem RMc.c0 {w:World} {g:Nat} {c:Mc} (h:RMc w g c):w.cell? ⟨g,0,none⟩=some (optP c.sp):=cell_of h rfl
theorem RMc.c8 {w:World} {g:Nat} {c:Mc} (h:RMc w g c):w.cell? ⟨g,8,none⟩=some (.int .i64 c.list):=cell_of h rfl
theorem RMc.c14 {w:World} {g:Nat} {c:Mc} (h:RMc w g c):w.cell? ⟨g,14,none⟩=some (.int .i64 c.base):=cell_of h rfl
theorem RMc.c15 {w:World} {g:Nat} {c:Mc} (h:RMc w g c):w.cell? ⟨g,15,none⟩=some (.int .i64 c.caught):=cell_of h rfl
end Go.Proofs.Shed
namespace Go.Proofs.Shed
open Go Go.RowKit Go.Proofs.K Go.Proofs.Cod
theorem vm_prims (w:World) (mb s b bb:Nat) (c:Mc) (x y:Sp) (base list caught:Int) (hc:RMc w mb c) (hsp:c.sp=some s) (h:RSp w s b bb x) (hp:Vm.prims x=some (y,base,list,caught)) (n1:mb≠s) (n2:mb≠b) (n3:mb≠bb) :
 Calls Tryz.prog 131 #[.pointer (some ⟨mb,0,none⟩)] w fun e w'=>e=.returned (.int .i64 0)∧RMc w' mb { c with base:=base,list:=list,caught:=caught }∧RSp w' s b bb y∧Keeps (fun k=>k=mb∨k=s∨k=bb) w w':=by
 unfold Vm.prims at hp;by_cases p1:(x.comma 10).2=0
 case neg=>rw [if_pos p1] at hp;cases hp
 rw [if_neg (by simpa using p1)] at hp
 have C1:=h_ fun V R=>sp_comma V s b bb x 10 R
 generalize hx1:x.comma 10=x1 at hp p1 C1;obtain ⟨x1,e1⟩:=x1;simp only at hp p1
 subst p1;by_cases p2:x1.list.2.2=0
 case neg=>rw [if_pos p2] at hp;cases hp
 rw [if_neg (by simpa using p2)] at hp
 have C2:=h_ fun V R=>head_list V s b bb x1 R
 generalize x1.list=x2 at hp p2 C2;obtain ⟨x2,l,e2⟩:=x2;simp only at hp p2
 subst p2;generalize hf:Vm.primFold l names x2 0=r3 at hp
 cases r3 with
 | none=>simp only at hp;cases hp
 | some r3 =>
 obtain ⟨x3,last⟩:=r3;simp only at hp
 have C4:=h_ fun V R=>head_create V s b bb x3 l [98,97,115,101] 0 1003 R (by omega) (by omega)
 by_cases p4:(x3.create l [98,97,115,101] 0 1003).2.2=0
 case neg=>rw [if_pos p4] at hp;cases hp
 rw [if_neg (by simpa using p4)] at hp
 generalize x3.create l [98,97,115,101] 0 1003=x4 at hp p4 C4;obtain ⟨x4,wd4,e4⟩:=x4;simp only at hp p4
 subst p4;have C5:=h_ fun V R=>sp_comma V s b bb x4 x.here R
 by_cases p5:(x4.comma x.here).2=0
 case neg=>rw [if_pos p5] at hp;cases hp
 rw [if_neg (by simpa using p5)] at hp
 generalize x4.comma x.here=x5 at hp p5 C5;obtain ⟨x5,e5⟩:=x5;simp only at hp p5
 subst p5;have C6:=h_ fun V R=>sp_comma V s b bb x5 last R
 by_cases p6:(x5.comma last).2=0
 case neg=>rw [if_pos p6] at hp;cases hp
 rw [if_neg (by simpa using p6)] at hp
 generalize x5.comma last=x6 at hp p6 C6;obtain ⟨x6,e6⟩:=x6;simp only at hp p6
 subst p6;injection hp with hp
 injection hp with h1 hp
 injection hp with h2 hp
 injection hp with h3 h4
 subst h1;subst h2;subst h3;subst h4;have HF:=h_ hf;have HNM:=h_ fun w=>names_any w
 clear hf hx1;obtain ⟨sp,dk,rk,hpp,nmb,ip,self,root,li,slots,fuel,out,inp,over,ba,ca,handler,does⟩:=c;simp only at hsp
 subst hsp;have c0:=hc.c0;have f14:=hc.free 14;have c14:=hc.c14;have HC1:=h_ (hc.setBase x.here);have K1:Keeps (fun k=>k=mb) w (w.setCell ⟨mb,14,none⟩ (.int .i64 x.here)):=Keeps.setCell _ _ _ (fun _=>rfl)
 have HS:=h_ (sp_here w s b bb x h);have R1:=h_ (h.keeps K1 (fun e=>n1 e.symm) (fun e=>n2 e.symm) (fun e=>n3 e.symm))
 have KK1:=h_ (K1.mono (T:=fun k=>k=mb∨k=s∨k=bb) (fun _ _ e=>.inl e))
 have N1:=h_ n1;have N2:=h_ n2;have N3:=h_ n3;unfold optP at c0;clear hc h K1 n1 n2 n3
 go_enter Tryz.func131,Tryz.ntmps131
 go_wp2_with fail;refine HS.out.mono ?_;rintro e w1 ⟨rfl,rfl⟩;clear HS;go_wp2_with fail;clear c0 f14 c14;refine (C1.out _ R1.out).mono ?_;rintro e W ⟨rfl,r1,k1⟩;replace HC1:=h_ (HC1.out.keeps k1 (fun e=>by rcases e with e | e;exact N1.out e;exact N3.out e))
 replace KK1:=h_ (KK1.out.trans (k1.mono (fun _ _ e=>.inr e)))
 replace R1:=h_ r1;clear r1 k1;have c0:W.cell? ⟨mb,0,none⟩=some (.pointer (some ⟨s,0,none⟩)):=HC1.out.c0;go_wp2_with fail;refine (C2.out _ R1.out).mono ?_;clear c0;rintro e W ⟨rfl,r1,k1⟩;replace HC1:=h_ (HC1.out.keeps k1 (fun e=>by rcases e with e | e;exact N1.out e;exact N3.out e))
 replace KK1:=h_ (KK1.out.trans (k1.mono (fun _ _ e=>.inr e)))
 replace R1:=h_ r1;clear r1 k1;have c0:W.cell? ⟨mb,0,none⟩=some (.pointer (some ⟨s,0,none⟩)):=HC1.out.c0;have hwW:=KK1.out.size;have f8:=HC1.out.free 8;have c8:=HC1.out.c8;have K8:Keeps (fun k=>k=mb) W (W.setCell ⟨mb,8,none⟩ (.int .i64 l)):=Keeps.setCell _ _ _ (fun _=>rfl)
 replace HC1:=h_ (HC1.out.setList l);replace R1:=h_ (R1.out.keeps K8 (fun e=>N1.out e.symm) (fun e=>N2.out e.symm) (fun e=>N3.out e.symm))
 replace KK1:=h_ (KK1.out.trans (K8.mono (T:=fun k=>k=mb∨k=s∨k=bb) (fun _ _ e=>.inl e)))
 clear K8;go_wp2_with fail;have hgn:mb<(W.setCell ⟨mb,8,none⟩ (.int .i64 l)).heap.size:=lt_of_heap HC1.out;have KA:=h_ (ka_ (W.setCell ⟨mb,8,none⟩ (.int .i64 l)) (.cells #[.int .i64 0,.int .i64 0,.int .i64 0,.string ⟨#[]⟩] 53));have AA:=h_ (halloc_at (W.setCell ⟨mb,8,none⟩ (.int .i64 l)) (.cells #[.int .i64 0,.int .i64 0,.int .i64 0,.string ⟨#[]⟩] 53));have hsz:(W.setCell ⟨mb,8,none⟩ (.int .i64 l)).heap.size=W.heap.size:=by simp
 have hsA:((W.setCell ⟨mb,8,none⟩ (.int .i64 l)).alloc (.cells #[.int .i64 0,.int .i64 0,.int .i64 0,.string ⟨#[]⟩] 53)).heap.size=W.heap.size+1:=by simp
 generalize hW1:(W.setCell ⟨mb,8,none⟩ (.int .i64 l))=W1 at *;generalize hW2:W1.alloc (.cells #[.int .i64 0,.int .i64 0,.int .i64 0,.string ⟨#[]⟩] 53)=W2 at *;clear hW1 hW2 f8 c8 c0;have hgW:W1.heap.size=W.heap.size:=hsz;obtain ⟨gW,hg⟩:∃ gW,gW=W.heap.size:=⟨_,rfl⟩;rw [← hg] at hsz hsA hgW ⊢;rw [hgW] at hgn AA
 have hlts:s<gW∧bb<gW∧b<gW:=by
  have:=R1.out.head;have h1:=lt_of_heap this;have h2:=R1.out.mem.lt;omega
 replace HC1:=h_ (HC1.out.keeps KA.out id);replace R1:=h_ (R1.out.keeps KA.out id id id);replace KK1:=h_ (KK1.out.trans (KA.out.mono (fun _ _ e=>e.elim)))
 have hg0:w.heap.size≤gW:=by omega
 have HG:=h_ hg;clear hg KA;refine (HNM.out _).mono ?_;rintro e W3 ⟨rfl,hW3⟩;have ON:=h_ (own_names W2);have KN:=h_ (ka_ W2 (.cells (names.map nm).toArray 9));rw [hW3] at ON KN;rw [hsA] at ON ⊢;clear hW3;replace HC1:=h_ (HC1.out.keeps KN.out id);replace R1:=h_ (R1.out.keeps KN.out id id id);replace KK1:=h_ (KK1.out.trans (KN.out.mono (fun _ _ e=>e.elim)))
 replace AA:=h_ (show WdCells gW 0 0 0 [] W3 from KN.out.heap AA.out id)
 clear KN;go_wp2_with fail
 go_loopw [45] (fun iv wr=>∃ (i:Nat) (y:Sp) (lst a f:Int) (n:List UInt8),iv=.int .i64 i∧i≤86∧Vm.primFold l (names.drop i) y lst=some (x3,last)∧RSp wr s b bb y∧WdCells gW a lst f n wr∧Keeps (fun k=>k=gW∨k=s∨k=bb) W3 wr) (fun iv _=>86-(intOf iv).toNat)
 case atStart=>exact ⟨0,x2,0,0,0,[],rfl,by omega,HF.out,R1.out,AA.out,Keeps.refl _ _⟩
 case round =>
  obtain ⟨i,y,lst,a,f,n,rfl,hi,hf,hr,hw,hk⟩:=hrel;have HY:=h_ hr;have HWD:=h_ hw;have HK:=h_ hk;have HMC:=h_ (HC1.out.keeps hk (fun e=>by rcases e with e | e | e;omega;exact N1.out e;exact N3.out e))
  clear hr hw hk;by_cases hlt:i<86
  · have hi':i<names.length:=by rw [names_len];exact hlt
    obtain ⟨g,hg,hc⟩:=own_str (ON.out.keeps HK.out (fun g e=>by cases e;exact fun e=>by rcases e with e | e | e <;> (have e:gW+1=_:=e;omega))) i hi'
    cases hg
    rw [List.drop_eq_getElem_cons hi'] at hf
    have hln:names[i].length≤31:=by
     have:∀ s ∈ names,s.length≤31:=by decide +kernel
     exact this _ (List.getElem_mem hi')
    generalize names[i]=nmn at hc hf hln;rw [Vm.primFold] at hf;by_cases pc:(y.create l nmn 0 (num nmn)).2.2=0
    case neg=>rw [if_neg pc] at hf;cases hf
    rw [if_pos pc] at hf;have HNU:=h_ fun V=>number_any nmn V
    have HCR:=h_ fun V R=>head_create V s b bb y l nmn 0 (num nmn) R (by omega) (by omega)
    generalize y.create l nmn 0 (num nmn)=y2 at hf pc HCR;obtain ⟨y2,wd,e2⟩:=y2;simp only at hf pc
    subst pc;have HF2:=h_ hf;have hi0:(0:Int)≤(i:Int):=by omega
    unfold nm at hc;clear hf hln hi';generalize num nmn=nu at HNU HCR;go_upto_region 13 with fail;have m0:wr.cell? ⟨mb,0,none⟩=some (.pointer (some ⟨s,0,none⟩)):=HMC.out.c0;have m8:wr.cell? ⟨mb,8,none⟩=some (.int .i64 l):=HMC.out.c8;have hmw:mb<wr.heap.size:=lt_of_heap HMC.out;have hsw:s<wr.heap.size∧bb<wr.heap.size:=⟨lt_of_heap HY.out.head,HY.out.mem.lt.2⟩
    go_cut [8,9] (fun v8 v9 wx=>∃ g8:Nat,v8=.pointer (some ⟨g8,0,none⟩)∧v9=.int .i64 0∧WdCells g8 wd.at_ wd.xt wd.flags wd.name wx∧RSp wx s b bb y2∧wr.heap.size≤g8∧Keeps (fun k=>k=s∨k=bb) wr wx)
    case first =>
     go_region_held3 (fun w'=>w'.cell? ⟨mb,0,none⟩=some (.pointer (some ⟨s,0,none⟩))∧w'.cell? ⟨mb,8,none⟩=some (.int .i64 l))
      (first | go_keep)
      (first
        | (go_at_call 121;refine (HNU.out (wr.alloc (.cells #[.int .i64 0,.int .i64 0,.int .i64 0,.string ⟨#[]⟩] 53)).drew).mono ?_;rintro e w4 ⟨rfl,k4⟩;dsimp only
           have kk:=((ka_ wr (.cells #[.int .i64 0,.int .i64 0,.int .i64 0,.string ⟨#[]⟩] 53)).trans (kd_ _)).trans k4;have hz:=k4.heap (show ((wr.alloc (.cells #[.int .i64 0,.int .i64 0,.int .i64 0,.string ⟨#[]⟩] 53)).drew).heap[wr.heap.size]?=_ from halloc_at wr _) id
           have p0:=kk.cell m0 id;have p8:=kk.cell m8 id;have r4:=HY.out.keeps kk id id id;have l4:=kk.size
           have zz:wr.heap.size<w4.heap.size:=lt_of_heap hz)
        | (go_at_call 121;refine (HNU.out wr.drew).mono ?_;rintro e w4 ⟨rfl,k4⟩;dsimp only
           have kk:=(kd_ wr).trans k4;have p0:=kk.cell m0 id;have p8:=kk.cell m8 id;have r4:=HY.out.keeps kk id id id
           have l4:=kk.size)
        | (go_at_call 82;refine (HCR.out (w4.alloc (.cells #[.int .i64 0,.int .i64 0,.int .i64 0,.string ⟨#[]⟩] 53)) (r4.allocd _)).mono ?_;rintro e w5 ⟨rfl,r5,k5⟩;dsimp only [Wd.val]
           have hz:=k5.heap (halloc_at w4 (.cells #[.int .i64 0,.int .i64 0,.int .i64 0,.string ⟨#[]⟩] 53)) (fun e=>by rcases e with e | e <;> omega)
           have o0:=k5.cell ((ka_ w4 (.cells #[.int .i64 0,.int .i64 0,.int .i64 0,.string ⟨#[]⟩] 53)).cell p0 id) (fun e=>by rcases e with e | e;exact N1.out e;exact N3.out e)
           have o8:=k5.cell ((ka_ w4 (.cells #[.int .i64 0,.int .i64 0,.int .i64 0,.string ⟨#[]⟩] 53)).cell p8 id) (fun e=>by rcases e with e | e;exact N1.out e;exact N3.out e)
           have ks:=(kk.mono (T:=fun k=>k=s∨k=bb) (fun _ _ e=>e.elim)).trans (((Keeps.alloc (fun k=>k=s∨k=bb) w4 (.cells #[.int .i64 0,.int .i64 0,.int .i64 0,.string ⟨#[]⟩] 53))).trans k5)
           have n0:mb≠w4.heap.size:=by omega
           have n0':w4.heap.size≠mb:=by omega
           have z0:w5.cell? ⟨w4.heap.size,0,none⟩=some (.int .i64 0):=cell_of hz rfl;have z1:w5.cell? ⟨w4.heap.size,1,none⟩=some (.int .i64 0):=cell_of hz rfl;have z2:w5.cell? ⟨w4.heap.size,2,none⟩=some (.int .i64 0):=cell_of hz rfl;have z3:w5.cell? ⟨w4.heap.size,3,none⟩=some (.string ⟨#[]⟩):=cell_of hz rfl;have q0:=free_of (i:=0) hz;have q1:=free_of (i:=1) hz;have q2:=free_of (i:=2) hz
           have q3:=free_of (i:=3) hz)
        | (go_at_call 82;refine (HCR.out w4 r4).mono ?_;rintro e w5 ⟨rfl,r5,k5⟩;dsimp only [Wd.val]
           have hz:=k5.heap hz (fun e=>by rcases e with e | e <;> omega)
           have o0:=k5.cell p0 (fun e=>by rcases e with e | e;exact N1.out e;exact N3.out e)
           have o8:=k5.cell p8 (fun e=>by rcases e with e | e;exact N1.out e;exact N3.out e)
           have ks:=(kk.mono (T:=fun k=>k=s∨k=bb) (fun _ _ e=>e.elim)).trans k5
           have n0:mb≠wr.heap.size:=by omega
           have n0':wr.heap.size≠mb:=by omega
           have z0:w5.cell? ⟨wr.heap.size,0,none⟩=some (.int .i64 0):=cell_of hz rfl;have z1:w5.cell? ⟨wr.heap.size,1,none⟩=some (.int .i64 0):=cell_of hz rfl;have z2:w5.cell? ⟨wr.heap.size,2,none⟩=some (.int .i64 0):=cell_of hz rfl;have z3:w5.cell? ⟨wr.heap.size,3,none⟩=some (.string ⟨#[]⟩):=cell_of hz rfl;have q0:=free_of (i:=0) hz;have q1:=free_of (i:=1) hz;have q2:=free_of (i:=2) hz
           have q3:=free_of (i:=3) hz)
        | (go_at_call 82;refine (HCR.out w4 r4).mono ?_;rintro e w5 ⟨rfl,r5,k5⟩;dsimp only [Wd.val]
           have o0:=k5.cell p0 (fun e=>by rcases e with e | e;exact N1.out e;exact N3.out e)
           have o8:=k5.cell p8 (fun e=>by rcases e with e | e;exact N1.out e;exact N3.out e)
           have ks:=(kk.mono (T:=fun k=>k=s∨k=bb) (fun _ _ e=>e.elim)).trans k5))
     all_goals
      go_wp2_with fail
      go_meet
      refine ⟨_,rfl,rfl,?_⟩
      first
       | (have hB:=set4 (g:=w4.heap.size) hz (.int .i64 wd.at_) (.int .i64 wd.xt) (.int .i64 wd.flags) (.string ⟨wd.name.toArray⟩)
          have kB:=keeps_set4 ks (w4.heap.size) (.int .i64 wd.at_) (.int .i64 wd.xt) (.int .i64 wd.flags) (.string ⟨wd.name.toArray⟩) (by omega)
          have hby:=HY.out.mem.lt;have rB:=r5.keeps (keeps_set4g w5 (w4.heap.size) (.int .i64 wd.at_) (.int .i64 wd.xt) (.int .i64 wd.flags) (.string ⟨wd.name.toArray⟩)) (fun e=>by have e:s=w4.heap.size:=e;omega) (fun e=>by have e:b=w4.heap.size:=e;omega) (fun e=>by have e:bb=w4.heap.size:=e;omega)
          exact ⟨hB,rB,by omega,kB⟩)
       | (have hB:=set4 (g:=wr.heap.size) hz (.int .i64 wd.at_) (.int .i64 wd.xt) (.int .i64 wd.flags) (.string ⟨wd.name.toArray⟩)
          have kB:=keeps_set4 ks (wr.heap.size) (.int .i64 wd.at_) (.int .i64 wd.xt) (.int .i64 wd.flags) (.string ⟨wd.name.toArray⟩) (by omega)
          have hby:=HY.out.mem.lt;have rB:=r5.keeps (keeps_set4g w5 (wr.heap.size) (.int .i64 wd.at_) (.int .i64 wd.xt) (.int .i64 wd.flags) (.string ⟨wd.name.toArray⟩)) (fun e=>by have e:s=wr.heap.size:=e;omega) (fun e=>by have e:b=wr.heap.size:=e;omega) (fun e=>by have e:bb=wr.heap.size:=e;omega)
          exact ⟨hB,rB,by omega,kB⟩)
       | (have hA:=halloc_at w5 (.cells #[.int .i64 wd.at_,.int .i64 wd.xt,.int .i64 wd.flags,.string ⟨wd.name.toArray⟩] 53)
          have kA:=ks.trans (Keeps.alloc (fun k=>k=s∨k=bb) w5 (.cells #[.int .i64 wd.at_,.int .i64 wd.xt,.int .i64 wd.flags,.string ⟨wd.name.toArray⟩] 53))
          have lA:=ks.size
          exact ⟨hA,r5.allocd _,by omega,kA⟩)
    case rest =>
     obtain ⟨g8,rfl,rfl,hw8,r8,h8,k8⟩:=hcut;have e0:wc.cell? ⟨g8,0,none⟩=some (.int .i64 wd.at_):=cell_of hw8 rfl;have e1:wc.cell? ⟨g8,1,none⟩=some (.int .i64 wd.xt):=cell_of hw8 rfl;have e2:wc.cell? ⟨g8,2,none⟩=some (.int .i64 wd.flags):=cell_of hw8 rfl;have e3:wc.cell? ⟨g8,3,none⟩=some (.string ⟨wd.name.toArray⟩):=cell_of hw8 rfl;have hWD:=h_ (show WdCells gW a lst f n wc from k8.heap HWD.out (fun e=>by rcases e with e | e <;> omega))
     have R8:=h_ r8;have K8:=h_ (HK.out.trans (k8.mono (T:=fun k=>k=gW∨k=s∨k=bb) (fun _ _ e=>.inr e)))
     clear hw8 r8 k8;by_cases hca:nmn=[40,99,97,117,103,104,116,41]
     · have d:(nmn == [40,99,97,117,103,104,116,41])=true:=by simp [hca]
       replace HF2:=h_ (show Vm.primFold l (names.drop (i+1)) y2 wd.xt=some (x3,last) by have:=HF2.out;rw [if_pos hca] at this;exact this)
       have q0:wc.cell? ⟨gW,0,none⟩=some (.int .i64 a):=cell_of hWD.out rfl;have q1:wc.cell? ⟨gW,1,none⟩=some (.int .i64 lst):=cell_of hWD.out rfl;have q2:wc.cell? ⟨gW,2,none⟩=some (.int .i64 f):=cell_of hWD.out rfl;have q3:wc.cell? ⟨gW,3,none⟩=some (.string ⟨n.toArray⟩):=cell_of hWD.out rfl;have b0:=free_of (i:=0) hWD.out;have b1:=free_of (i:=1) hWD.out;have b2:=free_of (i:=2) hWD.out;have b3:=free_of (i:=3) hWD.out;have WN:=h_ (set4 hWD.out (.int .i64 wd.at_) (.int .i64 wd.xt) (.int .i64 wd.flags) (.string ⟨wd.name.toArray⟩));have KN:=h_ (K8.out.trans ((keeps_set4g wc gW (.int .i64 wd.at_) (.int .i64 wd.xt) (.int .i64 wd.flags) (.string ⟨wd.name.toArray⟩)).mono (T:=fun k=>k=gW∨k=s∨k=bb) (fun _ _ e=>.inl e)))
       have RN:=h_ (R8.out.keeps (keeps_set4g wc gW (.int .i64 wd.at_) (.int .i64 wd.xt) (.int .i64 wd.flags) (.string ⟨wd.name.toArray⟩)) (fun e=>by have e:s=gW:=e;omega) (fun e=>by have e:b=gW:=e;omega) (fun e=>by have e:bb=gW:=e;omega))
       clear hca;go_wp2_with fail
       go_roundw
       case rel=>exact ⟨i+1,y2,wd.xt,wd.at_,wd.flags,wd.name,by go_num,by omega,HF2.out,RN.out,WN.out,KN.out⟩
       case measure=>simp [intOf];omega
     · have d:(nmn == [40,99,97,117,103,104,116,41])=false:=by simp [hca]
       replace HF2:=h_ (show Vm.primFold l (names.drop (i+1)) y2 lst=some (x3,last) by have:=HF2.out;rw [if_neg hca] at this;exact this)
       clear hca;go_wp2_with fail
       go_roundw
       case rel=>exact ⟨i+1,y2,lst,a,f,n,by go_num,by omega,HF2.out,R8.out,hWD.out,K8.out⟩
       case measure=>simp [intOf];omega
  · have hge:i=86:=by omega
    subst hge;rw [show names.drop 86=[] by rw [← names_len];exact List.drop_length] at hf
    rw [Vm.primFold] at hf;injection hf with hf
    injection hf with h1 h2
    subst h1;subst h2;clear hlt;have m0:wr.cell? ⟨mb,0,none⟩=some (.pointer (some ⟨s,0,none⟩)):=HMC.out.c0;have m8:wr.cell? ⟨mb,8,none⟩=some (.int .i64 l):=HMC.out.c8;have hmw:mb<wr.heap.size:=lt_of_heap HMC.out;have hsw:s<wr.heap.size∧bb<wr.heap.size:=⟨lt_of_heap HY.out.head,HY.out.mem.lt.2⟩;have hbw:b<wr.heap.size:=HY.out.mem.lt.1;have hgr:gW<wr.heap.size:=lt_of_heap HWD.out;go_wp2_with fail
    go_cut [10,11] (fun v8 v9 wx=>v9=.int .i64 0∧RSp wx s b bb x4∧Keeps (fun k=>k=s∨k=bb) wr wx)
    case first =>
     go_region_held3 (fun w'=>w'.cell? ⟨mb,0,none⟩=some (.pointer (some ⟨s,0,none⟩))∧w'.cell? ⟨mb,8,none⟩=some (.int .i64 l))
      (first | go_keep)
      (first
        | (go_at_call 82;refine (C4.out (wr.alloc (.cells #[.int .i64 0,.int .i64 0,.int .i64 0,.string ⟨#[]⟩] 53)).drew ((HY.out.allocd _).drew)).mono ?_;rintro e w5 ⟨rfl,r5,k5⟩;dsimp only [Wd.val]
           have hz:=k5.heap (show ((wr.alloc (.cells #[.int .i64 0,.int .i64 0,.int .i64 0,.string ⟨#[]⟩] 53)).drew).heap[wr.heap.size]?=_ from halloc_at wr _) (fun e=>by rcases e with e | e <;> omega)
           have o0:=k5.cell ((ka_ wr (.cells #[.int .i64 0,.int .i64 0,.int .i64 0,.string ⟨#[]⟩] 53)).cell m0 id) (fun e=>by rcases e with e | e;exact N1.out e;exact N3.out e)
           have o8:=k5.cell ((ka_ wr (.cells #[.int .i64 0,.int .i64 0,.int .i64 0,.string ⟨#[]⟩] 53)).cell m8 id) (fun e=>by rcases e with e | e;exact N1.out e;exact N3.out e)
           have ks:=((Keeps.alloc (fun k=>k=s∨k=bb) wr (.cells #[.int .i64 0,.int .i64 0,.int .i64 0,.string ⟨#[]⟩] 53)).trans (Keeps.drew _ _)).trans k5
           have n0:mb≠wr.heap.size:=by omega
           have n0':wr.heap.size≠mb:=by omega
           have z0:w5.cell? ⟨wr.heap.size,0,none⟩=some (.int .i64 0):=cell_of hz rfl;have z1:w5.cell? ⟨wr.heap.size,1,none⟩=some (.int .i64 0):=cell_of hz rfl;have z2:w5.cell? ⟨wr.heap.size,2,none⟩=some (.int .i64 0):=cell_of hz rfl;have z3:w5.cell? ⟨wr.heap.size,3,none⟩=some (.string ⟨#[]⟩):=cell_of hz rfl;have q0:=free_of (i:=0) hz;have q1:=free_of (i:=1) hz;have q2:=free_of (i:=2) hz
           have q3:=free_of (i:=3) hz)
        | (go_at_call 82;refine (C4.out wr.drew HY.out.drew).mono ?_;rintro e w5 ⟨rfl,r5,k5⟩;dsimp only [Wd.val]
           have o0:=k5.cell m0 (fun e=>by rcases e with e | e;exact N1.out e;exact N3.out e)
           have o8:=k5.cell m8 (fun e=>by rcases e with e | e;exact N1.out e;exact N3.out e)
           have ks:=(Keeps.drew (fun k=>k=s∨k=bb) wr).trans k5))
     all_goals
      go_wp2_with fail
      go_meet
      refine ⟨rfl,?_⟩
      first
       | (have hB:=set4 (g:=wr.heap.size) hz (.int .i64 wd4.at_) (.int .i64 wd4.xt) (.int .i64 wd4.flags) (.string ⟨wd4.name.toArray⟩)
          have kB:=keeps_set4 ks wr.heap.size (.int .i64 wd4.at_) (.int .i64 wd4.xt) (.int .i64 wd4.flags) (.string ⟨wd4.name.toArray⟩) (by omega)
          have rB:=r5.keeps (keeps_set4g w5 wr.heap.size (.int .i64 wd4.at_) (.int .i64 wd4.xt) (.int .i64 wd4.flags) (.string ⟨wd4.name.toArray⟩)) (fun e=>by have e:s=wr.heap.size:=e;omega) (fun e=>by have e:b=wr.heap.size:=e;omega) (fun e=>by have e:bb=wr.heap.size:=e;omega)
          exact ⟨rB,kB⟩)
       | (have kA:=ks.trans (Keeps.alloc (fun k=>k=s∨k=bb) w5 (.cells #[.int .i64 wd4.at_,.int .i64 wd4.xt,.int .i64 wd4.flags,.string ⟨wd4.name.toArray⟩] 53))
          exact ⟨r5.allocd _,kA⟩)
    case rest =>
     obtain ⟨rfl,r9,k9⟩:=hcut;have nS:¬ (mb=s∨mb=bb):=fun e=>by rcases e with e | e;exact N1.out e;exact N3.out e
     have M9:=h_ (HMC.out.keeps k9 nS);have W9:=h_ (show WdCells gW a lst f n wc from k9.heap HWD.out (fun e=>by rcases e with e | e <;> omega))
     have R9:=h_ r9;have K9:=h_ (HK.out.trans (k9.mono (T:=fun k=>k=gW∨k=s∨k=bb) (fun _ _ e=>.inr e)))
     have NS:=h_ nS;have m0:wc.cell? ⟨mb,0,none⟩=some (.pointer (some ⟨s,0,none⟩)):=M9.out.c0;have m14:wc.cell? ⟨mb,14,none⟩=some (.int .i64 x.here):=M9.out.c14;clear r9 k9 m8 nS;go_upto_region 22 with fail
     go_still_tail 8,(by kernel_rfl)
     change wpList _ _ _ _ _ wc.drew
     go_wp2_with fail;refine (C5.out _ R9.out.drew).mono ?_;rintro e W ⟨rfl,r1,k1⟩;have k1:=(Keeps.drew (fun k=>k=s∨k=bb) wc).trans k1
     replace M9:=h_ (M9.out.keeps k1 NS.out);replace W9:=h_ (show WdCells gW a lst f n W from k1.heap W9.out (fun e=>by rcases e with e | e <;> omega))
     replace K9:=h_ (K9.out.trans (k1.mono (T:=fun k=>k=gW∨k=s∨k=bb) (fun _ _ e=>.inr e)))
     replace R9:=h_ r1;clear r1 k1 m0 m14;have m0:W.cell? ⟨mb,0,none⟩=some (.pointer (some ⟨s,0,none⟩)):=M9.out.c0;have m15:=M9.out.c15;have f15:=M9.out.free 15;have KX:Keeps (fun k=>k=mb) W (W.setCell ⟨mb,15,none⟩ (.int .i64 x5.here)):=Keeps.setCell _ _ _ (fun _=>rfl)
     have M10:=h_ (M9.out.setCaught x5.here);have W10:=h_ (show WdCells gW a lst f n (W.setCell ⟨mb,15,none⟩ (.int .i64 x5.here)) from KX.heap W9.out (fun e=>by have e:gW=mb:=e;omega))
     have R10:=h_ (R9.out.keeps KX (fun e=>N1.out e.symm) (fun e=>N2.out e.symm) (fun e=>N3.out e.symm))
     have K10:=h_ ((K9.out.mono (T:=fun k=>k=mb∨k=gW∨k=s∨k=bb) (fun _ _ e=>.inr e)).trans (KX.mono (fun _ _ e=>.inl e)))
     have n10:(W.setCell ⟨mb,15,none⟩ (.int .i64 x5.here)).cell? ⟨mb,0,none⟩=some (.pointer (some ⟨s,0,none⟩)):=M10.out.c0;have n11:(W.setCell ⟨mb,15,none⟩ (.int .i64 x5.here)).cell? ⟨gW,1,none⟩=some (.int .i64 lst):=cell_of W10.out rfl;clear KX;go_wp2_with fail;refine (sp_here W s b bb _ R9.out).mono ?_;rintro e w1 ⟨rfl,rfl⟩;go_upto_region 26 with fail;generalize hV:W.setCell ⟨mb,15,none⟩ (.int .i64 x5.here)=V at M10 W10 R10 K10 n10 n11 ⊢;clear hV m0 m15 f15
     go_still_tail 6,(by kernel_rfl)
     change wpList _ _ _ _ _ V.drew
     go_wp2_with fail;refine (C6.out _ R10.out.drew).mono ?_;rintro e W' ⟨rfl,r1,k1⟩;have k1:=(Keeps.drew (fun k=>k=s∨k=bb) V).trans k1
     have MF:=h_ (M10.out.keeps k1 NS.out);have RF:=h_ r1;have KF:=h_ (KK1.out.trans' (K10.out.trans (k1.mono (T:=fun k=>k=mb∨k=gW∨k=s∨k=bb) (fun _ _ e=>.inr (.inr e)))) (fun i hi e=>by rcases e with e | e | e | e;exact .inl e;omega;exact .inr (.inl e);exact .inr (.inr e)))
     clear r1 k1;go_wp2_with fail;go_ret
     exact ⟨rfl,MF.out,RF.out,KF.out⟩
end Go.Proofs.Shed
