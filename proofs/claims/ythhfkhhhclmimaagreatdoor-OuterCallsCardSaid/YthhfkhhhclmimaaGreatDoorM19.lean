/- Of CallsG: WIface. No condition. -/
import Derived.Test.YthhfkhhhclmimaaGreatDoorM05
set_option linter.unusedVariables false
set_option linter.unusedSimpArgs false
set_option maxRecDepth 10000
set_option maxHeartbeats 2000000
namespace Go.Proofs.Shed
open Go Go.RowKit Go.Proofs.K
theorem infoInt:(Tryz.prog.info? 2).map (fun i=>(i.zero,i.size,i.bytes))=some (some (.int .i64 0),1,8):=by kernel_rfl
def intV (L:List Int):List Value:=L.map (.int .i64)
def OwnI (W w:World) (a:Option Addr) (c:Nat) (L:List Int):Prop:=Own w 2 1 a L.length c (intV L)∧∀ g,blk a=some g→W.heap.size≤g
def ArgI (w:World) (a:Option Addr) (L:List Int):Prop:=∀ i (hi:i<L.length),∃ g o,a=some ⟨g,o,none⟩∧w.cell? ⟨g,o+i,none⟩=some (.int .i64 L[i])
theorem OwnI.nil (W w:World):OwnI W w none 0 []:=⟨Own.nil _ _ _,by simp [blk]⟩
theorem OwnI.keeps {W w w':World} {a:Option Addr} {c:Nat} {L:List Int} (h:OwnI W w a c L) {S:Nat→Prop} (k:Keeps S w w') (hs:∀ g,blk a=some g→¬ S g):OwnI W w' a c L:=⟨h.1.keeps k hs,h.2⟩
theorem OwnI.more {W w w':World} {a a':Option Addr} {c c':Nat} {L:List Int} (h:OwnI W w a c L) (x:Int) (o:Own w' 2 1 a' (L.length+1) c' (intV L++[.int .i64 x])) (k:Nat) (l:blk a'=blk a∨blk a'=some k) (hk:W.heap.size≤k):OwnI W w' a' c' (L++[x]):=by
 refine ⟨?_,?_⟩
 · rw [List.length_append]
   have:intV (L++[x])=intV L++[.int .i64 x]:=by simp [intV]
   rw [this];exact o
 · intro g hg
   rcases l with e | e <;> rw [e] at hg
   · exact h.2 g hg
   · cases hg;exact hk
theorem OwnI.arg {W w:World} {a:Option Addr} {c:Nat} {L:List Int} (h:OwnI W w a c L):ArgI w a L:=by
 intro i hi
 rcases h.1.form with ⟨rfl,hn,rfl,hx⟩ | ⟨g,cur,rfl,hh,hnc,hcm,hcs,htk,hxl⟩
 · omega
 · refine ⟨g,0,rfl,?_⟩
   rw [Nat.zero_add];exact h.1.cell (by simp [intV,hi])
theorem ArgI.keeps {w w':World} {a:Option Addr} {L:List Int} (h:ArgI w a L) {S:Nat→Prop} (k:Keeps S w w') (hs:∀ g,blk a=some g→¬ S g):ArgI w' a L:=by
 intro i hi;obtain ⟨g,o,rfl,hc⟩:=h i hi;exact ⟨g,o,rfl,k.cell hc (hs g rfl)⟩
theorem int_news (w:World) (x:Int):∀ j u,[Value.int .i64 x][j]?=some u→(w.alloc (.cells #[.int .i64 x] 2)).cell? ((⟨w.heap.size,0,none⟩:Addr).add j)=some u:=by
 intro j u hu;rw [Addr.add_lit,Nat.zero_add];refine cell_of (halloc_at _ _) ?_;simpa using hu
theorem int_one (x:Int):∀ u ∈ [Value.int .i64 x],u.oneCell'=true:=by
 intro u hu;simp at hu
 subst hu;rfl
end Go.Proofs.Shed
