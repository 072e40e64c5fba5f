/- Of CallsG: WStack. No condition. -/
import Derived.Test.YthhfkhhhclmimaaGreatDoorM03
import Derived.Test.YthhfkhhhclmimaaGreatDoorM20
set_option linter.unusedVariables false
set_option linter.unusedSimpArgs false
set_option maxRecDepth 10000
set_option maxHeartbeats 4000000
namespace Go.Proofs.Shed
open Go Go.RowKit Go.Proofs.K
structure RStk (w:World) (d b:Nat) (s:Stk):Prop where
 head:w.heap[d]?=some (.cells #[.pointer (some ⟨b,0,none⟩),.int .i64 s.from_,.int .i64 s.most,.int .i64 s.depth,.int .i64 s.over,.int .i64 s.under] 169 (0,0))
 ok:s.Ok
theorem RStk.keeps {w w':World} {d b:Nat} {s:Stk} (h:RStk w d b s) {S:Nat→Prop} (k:Keeps S w w') (h0:¬ S d):RStk w' d b s:=⟨k.heap h.head h0,h.ok⟩
theorem RStk.lt {w:World} {d b:Nat} {s:Stk} (h:RStk w d b s):d<w.heap.size:=lt_of_heap h.head
theorem RStk.withDepth {w:World} {d b:Nat} {s:Stk} (h:RStk w d b s) (n:Int) (h0:0≤n) (h1:n≤s.most):RStk (w.setCell ⟨d,3,none⟩ (.int .i64 n)) d b { s with depth:=n } :=
 ⟨hset_same h.head _,h.ok.1,h.ok.2.1,h0,h1,h.ok.2.2.2.2⟩
theorem stk_depth (w:World) (d b:Nat) (s:Stk) (h:RStk w d b s):Calls Tryz.prog 18 #[.pointer (some ⟨d,0,none⟩)] w fun e w'=>e=.returned (.int .i64 s.depth)∧w=w':=by
 have c3:=cell_of (i:=3) h.head rfl
 go_enter Tryz.func18,Tryz.ntmps18
 go_wp2_with fail;go_ret
 exact ⟨rfl,rfl⟩
theorem stk_place (w:World) (d b:Nat) (s:Stk) (i:Int) (h:RStk w d b s) (i0 : -1099511627776≤i) (i1:i≤1099511627776) :
 Calls Tryz.prog 145 #[.pointer (some ⟨d,0,none⟩),.int .i64 i] w fun e w'=>e=.returned (.int .i64 (s.place i))∧Keeps (fun _=>False) w w':=by
 obtain ⟨hd,o0,o1,o2,o3,o4,_⟩:=h;have c1:=fun (q:Stay w)=>q.2.cell (cell_of (i:=1) hd rfl) id
 have c3:=fun (q:Stay w)=>q.2.cell (cell_of (i:=3) hd rfl) id
 obtain ⟨fr,mo,de,ov,un⟩:=s;unfold Stk.place;simp only at o0 o1 o2 o3 o4 c1 c3 ⊢
 have w1:IntKind.i64.wrap (de-1)=de-1:=IntWalk.i64_in _ (by omega)
 have w2:IntKind.i64.wrap (de-1-i)=de-1-i:=IntWalk.i64_in _ (by omega)
 have w3:IntKind.i64.wrap ((de-1-i)*8)=(de-1-i)*8:=IntWalk.i64_in _ (by omega)
 have w4:IntKind.i64.wrap (fr+(de-1-i)*8)=fr+(de-1-i)*8:=IntWalk.i64_in _ (by omega)
 clear hd
 go_enter Tryz.func145,Tryz.ntmps145
 go_wp2_with fail;refine Go.Proofs.K.wp_region_calm ?calm1a ?calm1b ?_
 case calm1a=>kernel_rfl
 case calm1b=>kernel_rfl
 repeat ((with_reducible refine wpQuiet_step ?_);intro Kq hKq;go_simp;first | ((with_reducible refine hKq _ ?_);clear hKq Kq) | (refine hKq _ ?_;clear hKq Kq) | (apply Exists.intro;refine ⟨fun _=>?_,hKq _ ?_⟩;(fail);clear hKq Kq))
 with_reducible refine wpQuiet_nil ?_
 intro _ hw';obtain ⟨⟨wq,kq⟩,hw''⟩:=hw';subst hw'';go_wp2_with fail;go_ret
 exact ⟨rfl,kq⟩
theorem stk_at (w:World) (d b bb:Nat) (s:Stk) (m:Mem) (i:Int) (h:RStk w d b s) (hm:RMem w b bb m) :
 Calls Tryz.prog 78 #[.pointer (some ⟨d,0,none⟩),.int .i64 i] w fun e w'=>e=.returned (.tuple #[.int .i64 (Stk.at_ m s i).1,.int .i64 (Stk.at_ m s i).2])∧Keeps (fun _=>False) w w':=by
 have c3:=cell_of (i:=3) h.head rfl;unfold Stk.at_;have hok:=h.ok;unfold Stk.Ok at hok;by_cases h1:i<0
 · have d1:decide (i<0)=true:=decide_eq_true h1
   rw [if_pos h1];clear h1
   go_enter Tryz.func78,Tryz.ntmps78
   go_wp2_with fail;go_ret2
   exact ⟨rfl,Keeps.refl _ _⟩
 · have d1:decide (i<0)=false:=decide_eq_false h1
   rw [if_neg h1];by_cases h2:s.depth≤i
   · have d2:decide (s.depth≤i)=true:=decide_eq_true h2
     rw [if_pos h2];have c5:=fun (q:Stay w)=>q.2.cell (cell_of (i:=5) h.head rfl) id
     clear h1 h2 hok;obtain ⟨fr,mo,de,ov,un⟩:=s
     go_enter Tryz.func78,Tryz.ntmps78
     go_wp2_with fail;refine Go.Proofs.K.wp_region_calm ?calm2a ?calm2b ?_
     case calm2a=>kernel_rfl
     case calm2b=>kernel_rfl
     repeat ((with_reducible refine wpQuiet_step ?_);intro Kq hKq;go_simp;first | ((with_reducible refine hKq _ ?_);clear hKq Kq) | (refine hKq _ ?_;clear hKq Kq) | (apply Exists.intro;refine ⟨fun _=>?_,hKq _ ?_⟩;(fail);clear hKq Kq))
     with_reducible refine wpQuiet_nil ?_
     intro _ hw';obtain ⟨⟨wq,kq⟩,hw''⟩:=hw';subst hw'';go_wp2_with fail;go_ret2
     exact ⟨rfl,kq⟩
   · have d2:decide (s.depth≤i)=false:=decide_eq_false h2
     rw [if_neg h2];have c0:=fun (q:Stay w)=>q.2.cell (cell_of (i:=0) h.head rfl) id
     have hP:=h_ fun (q:Stay w)=>stk_place q.1 d b s i (h.keeps q.2 id) (by omega) (by omega)
     have hC:=h_ fun (q:Stay w)=>(mem_cell q.1 b bb m (s.place i) (hm.keeps q.2 id id)).mono (fun e w' (h:_∧_)=>(⟨h.1,h.2 ▸ Keeps.refl (fun _=>False) _⟩:_∧Keeps (fun _=>False) q.1 w'))
     generalize s.place i=a at hP hC ⊢;clear h1 h2 hok;obtain ⟨fr,mo,de,ov,un⟩:=s
     go_enter Tryz.func78,Tryz.ntmps78
     go_wp2_with fail;refine Go.Proofs.K.wp_region_calm ?calm3a ?calm3b ?_
     case calm3a=>kernel_rfl
     case calm3b=>kernel_rfl
     repeat ((with_reducible refine wpQuiet_step ?_);intro Kq hKq;go_simp;first | ((with_reducible refine hKq _ ?_);clear hKq Kq) | (refine hKq _ ?_;clear hKq Kq) | (apply Exists.intro;refine ⟨fun _=>?_,hKq _ ?_⟩;(first | exact K.calm_of (hP.out _) | exact K.calm_of (hC.out _));clear hKq Kq))
     with_reducible refine wpQuiet_nil ?_
     intro _ hw';obtain ⟨⟨wq,kq⟩,hw''⟩:=hw';subst hw'';go_wp2_with fail;go_ret2
     exact ⟨rfl,kq⟩
end Go.Proofs.Shed
