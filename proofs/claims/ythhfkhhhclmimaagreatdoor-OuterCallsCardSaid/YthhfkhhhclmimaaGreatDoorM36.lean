/- Of CallsG: WCtl. No condition. -/
import Derived.Test.YthhfkhhhclmimaaGreatDoorM20
import Derived.Test.YthhfkhhhclmimaaGreatDoorM03
set_option linter.unusedVariables false
set_option linter.unusedSimpArgs false
set_option maxRecDepth 10000
set_option maxHeartbeats 4000000
namespace Go.Proofs.Shed
open Go Go.RowKit Go.Proofs.K
def mkM (l:List (Int × Int)):List Value:=l.flatMap fun p=>[.int .i64 p.1,.int .i64 p.2]
theorem mkM_app (l:List (Int × Int)) (k at_:Int):mkM (l++[(k,at_)])=mkM l++[.int .i64 k,.int .i64 at_]:=by simp [mkM]
theorem mkM_len (l:List (Int × Int)):(mkM l).length=l.length*2:=by induction l with | nil=>rfl | cons a l ih=>simp [mkM] at *;omega
theorem infoMark:(Tryz.prog.info? 380).map (fun i=>(i.zero,i.size,i.bytes))=some (some (.agg #[.int .i64 0,.int .i64 0]),2,16):=by kernel_rfl
structure RMk (w:World) (b o:Nat) (a:Option Addr) (c:Nat) (l:List (Int × Int)):Prop where
 cell:w.cell? ⟨b,o,none⟩=some (.slice a l.length c)
 free:w.frozen? ⟨b,o,none⟩=false
 own:Own w 380 2 a l.length c (mkM l)
 ne:blk a≠some b
 lt:b<w.heap.size
theorem closed_any (b o:Nat) (a:Option Addr) (c:Nat) (l:List (Int × Int)) (w:World) (h:RMk w b o a c l) (hl:l.length≤1000) :
 Calls Tryz.prog 88 #[.pointer (some ⟨b,o,none⟩)] w fun e w'=>e=.returned (.bool (l == []))∧w=w':=by
 have h0:=h.cell;clear h
 cases l with
 | nil =>
  go_enter Tryz.func88,Tryz.ntmps88
  go_wp2_with fail;go_ret
  exact ⟨rfl,rfl⟩
 | cons x l =>
  simp only [List.length_cons] at h0
  go_enter Tryz.func88,Tryz.ntmps88
  go_wp2_with fail;go_ret
  exact ⟨rfl,rfl⟩
theorem open_bad (b o:Nat) (k at_:Int) (a:Option Addr) (c:Nat) (l:List (Int × Int)) (w:World) (h:RMk w b o a c l) (hk0:0≤k) (hk1:k≤3) (hl:100≤l.length) (hl2:l.length≤1000) :
 Calls Tryz.prog 233 #[.pointer (some ⟨b,o,none⟩),.int .i64 k,.int .i64 at_] w fun e w'=>e=.returned (.int .i64 (-22))∧w=w':=by
 have h0:=h.cell;clear h;have hh:100≤(l.length:Int):=by omega
 go_enter Tryz.func233,Tryz.ntmps233
 go_wp2_with fail;go_ret
 exact ⟨rfl,rfl⟩
def MrkPost (b o:Nat) (a:Option Addr) (l:List (Int × Int)) (w w':World):Prop :=
 ∃ a' c' w1,w'=w1.setCell ⟨b,o,none⟩ (.slice a' l.length c')∧Keeps (fun k=>blk a=some k) w w1∧RMk w' b o a' c' l∧(blk a'=blk a∨∃ k,blk a'=some k∧w.heap.size≤k)∧Keeps (fun j=>j=b∨blk a=some j) w w'
theorem frozen_set {w:World} {b o:Nat} {v:Value} (h:w.frozen? ⟨b,o,none⟩=false):(w.setCell ⟨b,o,none⟩ v).frozen? ⟨b,o,none⟩=false:=by
 rw [World.frozen?_setCell];exact h
theorem RMk.next {w w1:World} {b o:Nat} {a a':Option Addr} {c c':Nat} {l l':List (Int × Int)} (h:RMk w b o a c l) (x y:Value)
 (hown':Own w1 380 2 a' l'.length c' (mkM l'))
 (hkeep:Keeps (fun k=>blk a=some k) (w.alloc (.cells #[x,y] 380)) w1) (hloc:blk a'=blk a∨blk a'=some (w.heap.size+1)) :
 MrkPost b o a l' w (w1.setCell ⟨b,o,none⟩ (.slice a' l'.length c')):=by
 have hb:=h.lt
 have hne:blk a'≠some b:=by
  rcases hloc with e | e
  · rw [e];exact h.ne
  · rw [e];simp;omega
 have hk:Keeps (fun j=>j=b∨blk a=some j) w w1:=(Keeps.alloc _ _ _).trans' hkeep (fun i _ h=>.inr h)
 have k0:Keeps (fun k=>blk a=some k) w w1:=(Keeps.alloc _ _ _).trans hkeep
 have hc1:w1.cell? ⟨b,o,none⟩=some (.slice a l.length c):=k0.cell h.cell h.ne;have hf1:w1.frozen? ⟨b,o,none⟩=false:=k0.frozen h.free hb h.ne;refine ⟨a',c',w1,rfl,k0,⟨World.cell?_setCell_same _ _ _ hc1,frozen_set hf1,?_,hne,?_⟩,?_,?_⟩
 · refine hown'.keeps (Keeps.setCell (S:=fun j=>j=b) w1 _ _ (fun _=>rfl)) (fun g hg e=>hne (by rw [hg,e]))
 · exact Nat.lt_of_lt_of_le hb (Nat.le_trans k0.size (Keeps.setCell (S:=fun j=>j=b) w1 ⟨b,o,none⟩ (.slice a' l'.length c') (fun _=>rfl)).size)
 · exact hloc.imp id fun e=>⟨_,e,by omega⟩
 · exact hk.trans' (Keeps.setCell (S:=fun j=>j=b) w1 _ _ (fun _=>rfl)) (fun _ _ h=>.inl h)
theorem open_ok (b o:Nat) (k at_:Int) (a:Option Addr) (c:Nat) (l:List (Int × Int)) (w:World) (h:RMk w b o a c l) (hk0:0≤k) (hk1:k≤3) (hl:l.length<100) :
 Calls Tryz.prog 233 #[.pointer (some ⟨b,o,none⟩),.int .i64 k,.int .i64 at_] w fun e w'=>e=.returned (.int .i64 0)∧MrkPost b o a (l++[(k,at_)]) w w':=by
 have h0:=h.cell;have hf:=h.free;have hown:=h.own;have hbl:=h.lt;have H:=h_ h;clear h
 go_enter Tryz.func233,Tryz.ntmps233
 go_wp2_with (first
  | (at_builtin;refine wpList_app rfl _ _ 51 rfl 380 _ 2 16 Tryz.underlying51 infoMark rfl (by decide) _ _ _ _ rfl (hown.alloc _) ⟨w.heap.size,0,none⟩ 1 1 [.int .i64 k,.int .i64 at_] rfl rfl (cell_two_new _ _ _ _) ?c2 ?c3 ?c4 ?_))
 case c2=>intro u hu;simp at hu;rcases hu with rfl | rfl <;> rfl
 case c3=>unfold maxLen;omega
 case c4=>omega
 intro a' c' w1 hown1 hkeep hloc;have hc1:w1.cell? ⟨b,o,none⟩=some (.slice a l.length c):=hkeep.cell (by rw [World.cell?_alloc_lt _ _ _ hbl];exact h0) H.out.ne
 have hf1:w1.frozen? ⟨b,o,none⟩=false:=hkeep.frozen (by rw [World.frozen?_alloc_past _ _ _ hbl];exact hf) (by simp;omega) H.out.ne
 have HR:=h_ (H.out.next (l':=l++[(k,at_)]) _ _ (by rw [mkM_app];simpa using hown1) hkeep (by simpa using hloc))
 clear hown1 hkeep hloc hown h0 hf;go_wp2_with fail;go_ret
 refine ⟨rfl,?_⟩;have:=HR.out;simpa using this
end Go.Proofs.Shed
