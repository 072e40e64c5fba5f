/- Of CallsG: Kit, KitB. No condition. -/
import Derived.WalkLawsBesides
import Derived.WalkSpells
import Derived.BigQuiet
import Derived.Lib.Hide
import Derived.Deep.RegionLawGrows
import Derived.Deep.RegionHeld3
import Derived.Deep.DeepCutAuto
import Derived.StillTailTactics
set_option linter.unusedVariables false
set_option linter.unusedSimpArgs false
namespace Go.Proofs.K
open Go Go.RowKit
structure Keeps (S:Nat→Prop) (w w':World):Prop where
 os:w'.os=w.os
 tape:w'.tape=w.tape
 output:w'.output=w.output
 size:w.heap.size≤w'.heap.size
 block:∀ k,k<w.heap.size→¬ S k→w'.heap[k]?=w.heap[k]?
theorem Keeps.refl (S:Nat→Prop) (w:World):Keeps S w w:=⟨rfl,rfl,rfl,Nat.le_refl _,fun _ _ _=>rfl⟩
theorem Keeps.trans {S:Nat→Prop} {a b c:World} (h:Keeps S a b) (k:Keeps S b c):Keeps S a c :=
 ⟨k.os.trans h.os,k.tape.trans h.tape,k.output.trans h.output,Nat.le_trans h.size k.size,
  fun i hi hs=>(k.block i (Nat.lt_of_lt_of_le hi h.size) hs).trans (h.block i hi hs)⟩
theorem Keeps.mono {S T:Nat→Prop} {a b:World} (h:Keeps S a b) (hst:∀ k,k<a.heap.size→S k→T k):Keeps T a b :=
 ⟨h.os,h.tape,h.output,h.size,fun k hk ht=>h.block k hk fun hs=>ht (hst k hk hs)⟩
theorem Keeps.trans' {S T:Nat→Prop} {a b c:World} (h:Keeps S a b) (k:Keeps T b c) (hT:∀ i,i<a.heap.size→T i→S i):Keeps S a c :=
 ⟨k.os.trans h.os,k.tape.trans h.tape,k.output.trans h.output,Nat.le_trans h.size k.size,
  fun i hi hs=>(k.block i (Nat.lt_of_lt_of_le hi h.size) (fun ht=>hs (hT i hi ht))).trans (h.block i hi hs)⟩
theorem Keeps.drew (S:Nat→Prop) (w:World):Keeps S w w.drew:=⟨rfl,rfl,rfl,Nat.le_refl _,fun _ _ _=>rfl⟩
theorem Keeps.drewN (S:Nat→Prop) (w:World) (n:Nat):Keeps S w (w.drewN n):=⟨rfl,rfl,rfl,Nat.le_refl _,fun _ _ _=>rfl⟩
theorem Keeps.alloc (S:Nat→Prop) (w:World) (o:Obj):Keeps S w (w.alloc o):=⟨rfl,rfl,rfl,by simp,fun k hk _=>Below.heap_alloc _ _ _ hk⟩
theorem Keeps.setCell {S:Nat→Prop} (w:World) (p:Addr) (u:Value) (hp:p.block<w.heap.size→S p.block):Keeps S w (w.setCell p u) :=
 ⟨rfl,rfl,rfl,by simp,fun k hk hs=>Below.heap_setCell _ _ _ _ (fun e=>hs (e ▸ hp (e ▸ hk)))⟩
theorem Keeps.grown {S:Nat→Prop} {w w':World} {row:Option Nat} (hg:w.grownBy w' row) (hr:∀ k,k<w.heap.size→row=some k→S k):Keeps S w w' :=
 ⟨hg.os,hg.tape,hg.output,hg.size,fun k hk hs=>hg.block k hk (fun e=>hs (hr k hk e.symm))⟩
theorem Keeps.cell {S:Nat→Prop} {w w':World} (h:Keeps S w w') {p:Addr} {v:Value} (hc:w.cell? p=some v) (hs:¬ S p.block):w'.cell? p=some v :=
 (World.cell?_of_block (h.block p.block (World.block_lt_of_cell? w p hc) hs)).trans hc
theorem Keeps.frozen {S:Nat→Prop} {w w':World} (h:Keeps S w w') {p:Addr} {v:Bool} (hc:w.frozen? p=v) (hb:p.block<w.heap.size) (hs:¬ S p.block):w'.frozen? p=v :=
 (World.frozen?_of_block (h.block p.block hb hs)).trans hc
theorem Keeps.heap {S:Nat→Prop} {w w':World} (h:Keeps S w w') {b:Nat} {o:Obj} (hc:w.heap[b]?=some o) (hs:¬ S b):w'.heap[b]?=some o :=
 (h.block b (Array.getElem?_eq_some_iff.1 hc).1 hs).trans hc
theorem Keeps.below {S:Nat→Prop} {w w':World} (h:Keeps S w w') {B:Nat} (hB:B≤w.heap.size) (hs:∀ k,k<B→¬ S k):Below B w w' :=
 ⟨h.os,h.tape,h.output,h.size,fun k hk=>h.block k (by omega) (hs k hk)⟩
theorem lt_of_heap {w:World} {b:Nat} {o:Obj} (h:w.heap[b]?=some o):b<w.heap.size:=(Array.getElem?_eq_some_iff.1 h).1
theorem cell_of {w:World} {b i:Nat} {cs:Array Value} {t:TypeId} {f:Nat × Nat} {v:Value} (h:w.heap[b]?=some (.cells cs t f)) (hv:cs[i]?=some v):w.cell? ⟨b,i,none⟩=some v:=by
 simp [World.cell?,h,hv]
theorem free_of {w:World} {b i:Nat} {cs:Array Value} {t:TypeId} (h:w.heap[b]?=some (.cells cs t (0,0))):w.frozen? ⟨b,i,none⟩=false:=by
 simp [World.frozen?,h]
theorem hset_same {w:World} {b i:Nat} {cs:Array Value} {t:TypeId} {f:Nat × Nat} (h:w.heap[b]?=some (.cells cs t f)) (v:Value) :
 (w.setCell ⟨b,i,none⟩ v).heap[b]?=some (.cells (cs.setIfInBounds i v) t f):=by
 simp [World.setCell,Array.getElem?_modify,h]
theorem hset_other {w:World} {b b' i:Nat} (h:b'≠b) (v:Value):(w.setCell ⟨b,i,none⟩ v).heap[b']?=w.heap[b']?:=Below.heap_setCell _ _ _ _ h
theorem halloc_at (w:World) (o:Obj):(w.alloc o).heap[w.heap.size]?=some o:=by show (w.heap.push o)[w.heap.size]?=_;simp
theorem halloc_old (w:World) (o:Obj) {b:Nat} (h:b<w.heap.size):(w.alloc o).heap[b]?=w.heap[b]?:=Below.heap_alloc _ _ _ h
abbrev Own (w:World) (e:TypeId) (size:Nat) (a:Option Addr) (n c:Nat) (xs:List Value):Prop:=w.ownsRow 0 e size (.slice a n c) n xs
def blk (a:Option Addr):Option Nat:=a.map (·.block)
theorem own_block (a:Option Addr) (n c:Nat):(Value.slice a n c).ownBlock=blk a:=by cases a <;> rfl
theorem Own.nil (w:World) (e:TypeId) (size:Nat):Own w e size none 0 0 []:=World.ownsRow_nil _ _ _ _
theorem Own.keeps {S:Nat→Prop} {w w':World} {e:TypeId} {size:Nat} {a:Option Addr} {n c:Nat} {xs:List Value} (h:Own w e size a n c xs) (k:Keeps S w w') (hs:∀ g,blk a=some g→¬ S g):Own w' e size a n c xs:=by
 refine ⟨h.1,?_⟩
 rcases h.2 with h | ⟨g,cap,cur,hv,hb,hh,r⟩
 · exact .inl h
 · refine .inr ⟨g,cap,cur,hv,hb,k.heap hh (hs g ?_),r⟩
   cases hv;rfl
theorem Own.lt {w:World} {e:TypeId} {size:Nat} {a:Option Addr} {n c:Nat} {xs:List Value} (h:Own w e size a n c xs) {g:Nat} (hg:blk a=some g):g<w.heap.size :=
 (World.ownsRow.lt h g (by rw [own_block];exact hg)).2
theorem Own.form {w:World} {e:TypeId} {size:Nat} {a:Option Addr} {n c:Nat} {xs:List Value} (h:Own w e size a n c xs) :
 (a=none∧n=0∧c=0∧xs=[])∨∃ g cur,a=some ⟨g,0,none⟩∧w.heap[g]?=some (.cells cur e (0,0))∧n≤c∧c≤maxLen∧cur.size=c*size∧cur.toList.take (n*size)=xs∧xs.length=n*size:=by
 obtain ⟨h1,h2⟩:=h
 rcases h2 with ⟨h2,h3⟩ | ⟨g,cap,cur,hv,hb,hh,r⟩
 · cases h2
   exact .inl ⟨rfl,rfl,rfl,List.eq_nil_of_length_eq_zero (by simpa using h1)⟩
 · cases hv
   exact .inr ⟨g,cur,rfl,hh,r.1,r.2.1,r.2.2.1,r.2.2.2,h1⟩
theorem Own.cell {w:World} {e:TypeId} {size:Nat} {ad:Addr} {n c:Nat} {xs:List Value} (h:Own w e size (some ad) n c xs) {j:Nat} {u:Value} (hu:xs[j]?=some u):w.cell? ⟨ad.block,j,none⟩=some u:=by
 rcases h.form with ⟨h,_⟩ | ⟨g',cur,hv,hh,_,_,_,ht,_⟩
 · cases h
 · cases hv
   refine cell_of hh ?_;rw [← ht,List.getElem?_take] at hu;split at hu
   · simpa using hu
   · cases hu
theorem wpList_app {P:Program} {w:World} {ops:Array Oper} {rest:List Oper} {o:Oper} {a:Act} {Q:Exit→Act→World→Prop} (hgd:o.guard=none) (s x:Operand) (t:TypeId)
 (ho:o.op=.call { callee:=.builtin .append,args:=#[s,x],argTypes:=#[t,t] })
 (e:TypeId) (z:Value) (size bytes:Nat) (ht:P.underlying t=some (.slice e)) (hi:(P.info? e).map (fun i=>(i.zero,i.size,i.bytes))=some (some z,size,bytes))
 (hzs:z.cells.size=size) (hsz:0<size)
 (sa:Option Addr) (n sc:Nat) (xs:List Value) (hs:a.eval s=.slice sa n sc) (hown:Own w e size sa n sc xs)
 (ad:Addr) (m c:Nat) (news:List Value) (hx:a.eval x=.slice (some ad) m c) (hl:news.length=m*size) (hnews:∀ j u,news[j]?=some u→w.cell? (ad.add j)=some u) (h1:∀ u ∈ news,u.oneCell'=true)
 (h63:n+m≤maxLen) (hbytes:(n+m)*bytes≤140737488355328)
 (h:∀ sa' sc' w',Own w' e size sa' (n+m) sc' (xs++news)→Keeps (fun k=>blk sa=some k) w w'→(blk sa'=blk sa∨blk sa'=some w.heap.size)→wpList P ops Q rest (a.put o.dst (.slice sa' (n+m) sc')) w') :
 wpList P ops Q (o :: rest) a w:=by
 obtain ⟨i,hi,hz,hz1,hz2⟩:=info_parts hi;refine wpList_append_own_at w hgd s x t ho 0 e i z size bytes ht hi hz hz1 hz2 hzs hsz _ n xs hs hown ad m c news hx hl hnews h1 h63 hbytes (Nat.zero_le _) ?_;intro v' w' hown' hgrow _ hloc
 have hv:∃ sa' sc',v'=.slice sa' (n+m) sc':=by
  rcases hown'.2 with ⟨h,h'⟩ | ⟨g,cap,cur,h,_⟩
  · exact ⟨none,0,by rw [h,h']⟩
  · exact ⟨_,_,h⟩
 obtain ⟨sa',sc',rfl⟩:=hv;rw [own_block,own_block] at hloc;rw [own_block] at hgrow;exact h sa' sc' w' hown' (Keeps.grown hgrow fun k _ e=>e) hloc
theorem _root_.h_ {p : Prop} (h : p) : Go.RowKit.Hid p := h
theorem _root_.kd_ (w : Go.World) : Keeps (fun _ => False) w w.drew := Keeps.drew _ w
theorem _root_.ka_ (w : Go.World) (o : Go.Obj) : Keeps (fun _ => False) w (w.alloc o) := Keeps.alloc _ w o
set_option maxRecDepth 10000
theorem wpList_run {P:Program} {w:World} {ops:Array Oper} {rest:List Oper} {o:Oper} {a:Act} {Q:Exit→Act→World→Prop} (hgd:o.guard=none) (v:Value) (w':World)
 (h:(execOp a.eval o).run P w=.ok (.value v) w') (hk:wpList P ops Q rest (a.put o.dst v) w'):wpList P ops Q (o :: rest) a w:=by
 refine wpList_plain hgd fun K hK=>?_
 unfold Oper.wp;rw [h];exact hK _ _ hk
theorem run_copy_str {P:Program} (w:World) (dT sT ty elem:TypeId) (g o dLen dCap:Nat) (s:ByteArray) (cur:Array Value) (t:TypeId)
 (hu:P.underlying dT=some (.slice elem)) (hs:(P.info? elem).map (·.size)=some 1)
 (hg:w.heap[g]?=some (.cells cur t (0,0))) (hn:s.size≤dLen) (hfit:o+s.size≤cur.size) :
 (Builtin.copy_ #[dT,sT] ty #[.slice (some ⟨g,o,none⟩) dLen dCap,.string s]).run P w =
  .ok (goInt s.size) (w.setRow g (cur.toList.take o++(s.data.toList.map fun b=>Value.int .u8 b.toNat)++cur.toList.drop (o+s.size)).toArray):=by
 have hl:(s.data.toList.map fun b=>Value.int .u8 (b.toNat:Int)).length=s.size:=by simp
 have hst:=run_storeCells_at P g o t (s.data.toList.map fun b=>Value.int .u8 (b.toNat:Int)) 0 cur w hg (by rw [hl];simpa using hfit) (by intro v hv;simp at hv;obtain ⟨b,_,rfl⟩:=hv;rfl)
 rw [hl] at hst;have hmin:Nat.min s.size dLen=s.size:=Nat.min_eq_left hn
 have hex:(s.extract 0 s.size).data.map (fun b=>Value.int .u8 (b.toNat:Int))=(s.data.toList.map fun b=>Value.int .u8 (b.toNat:Int)).toArray:=by
  have:s.extract 0 s.size=s:=by simp
  rw [this];apply Array.ext'
  simp
 cases hq:P.info? elem with
 | none=>simp [hq] at hs
 | some i =>
  have hi:i.size=1:=by simpa [hq] using hs
  simp only [Nat.add_zero] at hst
  simp only [Builtin.copy_,List.getElem?_toArray,List.getElem?_cons_zero,List.getElem?_cons_succ,Sem.run_bind,run_underlying hu,Result.andThen_ok,Builtin.lenOf,Builtin.firstCells,Sem.run_pure,sizeOf,typeInfo,hmin,hex]
  simp [hq,hi,hst]
theorem hset3 {w:World} {b:Nat} {a0 a1 a2:Value} {t:TypeId} {f:Nat × Nat} (h:w.heap[b]?=some (.cells #[a0,a1,a2] t f)) (x y z:Value) :
 (((w.setCell ⟨b,0,none⟩ x).setCell ⟨b,1,none⟩ y).setCell ⟨b,2,none⟩ z).heap[b]?=some (.cells #[x,y,z] t f):=hset_same (hset_same (hset_same h x) y) z
theorem Keeps.setNew {S:Nat→Prop} {w w1:World} (k:Keeps S w w1) (p:Addr) (u:Value) (hp:w.heap.size≤p.block):Keeps S w (w1.setCell p u) :=
 k.trans' (Keeps.setCell (S:=fun j=>j=p.block) w1 p u (fun _=>rfl)) (fun i hi e=>by subst e;omega)
end Go.Proofs.K
