/- A part of WalkG. No condition. -/
import Derived.WalkLawsBesides
import Derived.WalkSpells
import Derived.BigQuiet
import Derived.Lib.Hide
import Derived.Deep.RegionLawGrows
import Derived.Deep.RegionHeld3
import Derived.Deep.DeepCutAuto
import Derived.StillTailTactics
set_option linter.unusedVariables false
set_option linter.unusedSimpArgs false
namespace Go.Proofs.K
open Go Go.RowKit
structure cq(S:Nat->Prop)(w w':World):Prop where
 os:w'.os=w.os
 tape:w'.tape=w.tape
 output:w'.output=w.output
 size:w.heap.size<=w'.heap.size
 block:∀ k,k<w.heap.size->¬ S k->w'.heap[k]?=w.heap[k]?
theorem cq.refl(S:Nat->Prop)(w:World):cq S w w:=⟨rfl,rfl,rfl,Nat.le_refl _,fun _ _ _=>rfl⟩
theorem cq.trans{S:Nat->Prop}{a b c:World}(h:cq S a b)(k:cq S b c):cq S a c :=
 ⟨k.os.trans h.os,k.tape.trans h.tape,k.output.trans h.output,Nat.le_trans h.size k.size,
  fun i hi hs=>(k.block i (Nat.lt_of_lt_of_le hi h.size) hs).trans (h.block i hi hs)⟩
theorem cq.mono{S T:Nat->Prop}{a b:World}(h:cq S a b)(hst:∀ k,k<a.heap.size->S k->T k):cq T a b :=
 ⟨h.os,h.tape,h.output,h.size,fun k hk ht=>h.block k hk fun hs=>ht (hst k hk hs)⟩
theorem cq.dh{S T:Nat->Prop}{a b c:World}(h:cq S a b)(k:cq T b c)(hT:∀ i,i<a.heap.size->T i->S i):cq S a c :=
 ⟨k.os.trans h.os,k.tape.trans h.tape,k.output.trans h.output,Nat.le_trans h.size k.size,
  fun i hi hs=>(k.block i (Nat.lt_of_lt_of_le hi h.size) (fun ht=>hs (hT i hi ht))).trans (h.block i hi hs)⟩
theorem cq.drew(S:Nat->Prop)(w:World):cq S w w.drew:=⟨rfl,rfl,rfl,Nat.le_refl _,fun _ _ _=>rfl⟩
theorem cq.drewN(S:Nat->Prop)(w:World)(n:Nat):cq S w (w.drewN n):=⟨rfl,rfl,rfl,Nat.le_refl _,fun _ _ _=>rfl⟩
theorem cq.alloc(S:Nat->Prop)(w:World)(o:Obj):cq S w (w.alloc o):=⟨rfl,rfl,rfl,by simp,fun k hk _=>Below.heap_alloc _ _ _ hk⟩
theorem cq.setCell{S:Nat->Prop}(w:World)(p:Addr)(u:Value)(hp:p.block<w.heap.size->S p.block):cq S w (w.setCell p u) :=
 ⟨rfl,rfl,rfl,by simp,fun k hk hs=>Below.heap_setCell _ _ _ _ (fun e=>hs (e ▸ hp (e ▸ hk)))⟩
theorem cq.grown{S:Nat->Prop}{w w':World}{row:Option Nat}(hg:w.grownBy w' row)(hr:∀ k,k<w.heap.size->row=some k->S k):cq S w w' :=
 ⟨hg.os,hg.tape,hg.output,hg.size,fun k hk hs=>hg.block k hk (fun e=>hs (hr k hk e.symm))⟩
theorem cq.cell{S:Nat->Prop}{w w':World}(h:cq S w w'){p:Addr}{v:Value}(hc:w.cell? p=some v)(hs:¬ S p.block):w'.cell? p=some v :=
 (World.cell?_of_block (h.block p.block (World.block_lt_of_cell? w p hc) hs)).trans hc
theorem cq.frozen{S:Nat->Prop}{w w':World}(h:cq S w w'){p:Addr}{v:Bool}(hc:w.frozen? p=v)(hb:p.block<w.heap.size)(hs:¬ S p.block):w'.frozen? p=v :=
 (World.frozen?_of_block (h.block p.block hb hs)).trans hc
theorem cq.heap{S:Nat->Prop}{w w':World}(h:cq S w w'){b:Nat}{o:Obj}(hc:w.heap[b]?=some o)(hs:¬ S b):w'.heap[b]?=some o :=
 (h.block b (Array.getElem?_eq_some_iff.1 hc).1 hs).trans hc
theorem cq.below{S:Nat->Prop}{w w':World}(h:cq S w w'){B:Nat}(hB:B<=w.heap.size)(hs:∀ k,k<B->¬ S k):Below B w w' :=
 ⟨h.os,h.tape,h.output,h.size,fun k hk=>h.block k (by omega) (hs k hk)⟩
theorem cA{w:World}{b:Nat}{o:Obj}(h:w.heap[b]?=some o):b<w.heap.size:=(Array.getElem?_eq_some_iff.1 h).1
theorem cp{w:World}{b i:Nat}{cs:Array Value}{t:TypeId}{f:Nat × Nat}{v:Value}(h:w.heap[b]?=some (.cells cs t f))(hv:cs[i]?=some v):w.cell? ⟨b,i,none⟩=some v:=by
 simp[World.cell?,h,hv]
theorem cB{w:World}{b i:Nat}{cs:Array Value}{t:TypeId}(h:w.heap[b]?=some (.cells cs t (0,0))):w.frozen? ⟨b,i,none⟩=false:=by
 simp[World.frozen?,h]
theorem cz{w:World}{b i:Nat}{cs:Array Value}{t:TypeId}{f:Nat × Nat}(h:w.heap[b]?=some (.cells cs t f))(v:Value) :
 (w.setCell ⟨b,i,none⟩ v).heap[b]?=some (.cells (cs.setIfInBounds i v) t f):=by
 simp[World.setCell,Array.getElem?_modify,h]
theorem CG{w:World}{b b' i:Nat}(h:b'≠b)(v:Value):(w.setCell ⟨b,i,none⟩ v).heap[b']?=w.heap[b']?:=Below.heap_setCell _ _ _ _ h
theorem cx(w:World)(o:Obj):(w.alloc o).heap[w.heap.size]?=some o:=by show(w.heap.push o)[w.heap.size]?=_;simp
theorem dp(w:World)(o:Obj){b:Nat}(h:b<w.heap.size):(w.alloc o).heap[b]?=w.heap[b]?:=Below.heap_alloc _ _ _ h
abbrev fp(w:World)(e:TypeId)(size:Nat)(a:Option Addr)(n c:Nat)(xs:List Value):Prop:=w.ownsRow 0 e size (.slice a n c) n xs
def dF(a:Option Addr):Option Nat:=a.map (·.block)
theorem jJ(a:Option Addr)(n c:Nat):(Value.slice a n c).ownBlock=dF a:=by cases a <;> rfl
theorem fp.nil(w:World)(e:TypeId)(size:Nat):fp w e size none 0 0 []:=World.ownsRow_nil _ _ _ _
theorem fp.ct{S:Nat->Prop}{w w':World}{e:TypeId}{size:Nat}{a:Option Addr}{n c:Nat}{xs:List Value}(h:fp w e size a n c xs)(k:cq S w w')(hs:∀ g,dF a=some g->¬ S g):fp w' e size a n c xs:=by
 refine⟨h.1,?_⟩
 rcases h.2 with h | ⟨g,cap,cur,hv,hb,hh,r⟩
 . exact .inl h
 . refine .inr ⟨g,cap,cur,hv,hb,k.heap hh (hs g ?_),r⟩
   cases hv;rfl
theorem fp.lt{w:World}{e:TypeId}{size:Nat}{a:Option Addr}{n c:Nat}{xs:List Value}(h:fp w e size a n c xs){g:Nat}(hg:dF a=some g):g<w.heap.size :=
 (World.ownsRow.lt h g (by rw[jJ];exact hg)).2
theorem fp.jK{w:World}{e:TypeId}{size:Nat}{a:Option Addr}{n c:Nat}{xs:List Value}(h:fp w e size a n c xs) :
 (a=none/\n=0/\c=0/\xs=[])\/∃ g cur,a=some ⟨g,0,none⟩/\w.heap[g]?=some (.cells cur e (0,0))/\n<=c/\c<=maxLen/\cur.size=c*size/\cur.toList.take (n*size)=xs/\xs.length=n*size:=by
 obtain⟨h1,h2⟩:=h
 rcases h2 with⟨h2,h3⟩ | ⟨g,cap,cur,hv,hb,hh,r⟩
 . cases h2
   exact .inl ⟨rfl,rfl,rfl,List.eq_nil_of_length_eq_zero (by simpa using h1)⟩
 . cases hv
   exact .inr ⟨g,cur,rfl,hh,r.1,r.2.1,r.2.2.1,r.2.2.2,h1⟩
theorem fp.cell{w:World}{e:TypeId}{size:Nat}{ad:Addr}{n c:Nat}{xs:List Value}(h:fp w e size (some ad) n c xs){j:Nat}{u:Value}(hu:xs[j]?=some u):w.cell? ⟨ad.block,j,none⟩=some u:=by
 rcases h.jK with⟨h,_⟩ | ⟨g',cur,hv,hh,_,_,_,ht,_⟩
 . cases h
 . cases hv
   refine cp hh ?_;rw[<- ht,List.getElem?_take]at hu;split at hu
   . simpa using hu
   . cases hu
theorem eB{P:Program}{w:World}{ops:Array Oper}{rest:List Oper}{o:Oper}{a:Act}{Q:Exit->Act->World->Prop}(hgd:o.guard=none)(s x:Operand)(t:TypeId)
 (ho:o.op=.call { callee:=.builtin .append,args:=#[s,x],argTypes:=#[t,t] })
 (e:TypeId) (z:Value) (size bytes:Nat) (ht:P.underlying t=some (.slice e)) (hi:(P.info? e).map (fun i=>(i.zero,i.size,i.bytes))=some (some z,size,bytes))
 (hzs:z.cells.size=size) (hsz:0<size)
 (sa:Option Addr) (n sc:Nat) (xs:List Value) (hs:a.eval s=.slice sa n sc) (hown:fp w e size sa n sc xs)
 (ad:Addr) (m c:Nat) (news:List Value) (hx:a.eval x=.slice (some ad) m c) (hl:news.length=m*size) (hnews:∀ j u,news[j]?=some u->w.cell? (ad.add j)=some u) (h1:∀ u ∈ news,u.oneCell'=true)
 (h63:n+m<=maxLen) (hbytes:(n+m)*bytes<=140737488355328)
 (h:∀ sa' sc' w',fp w' e size sa' (n+m) sc' (xs++news)->cq (fun k=>dF sa=some k) w w'->(dF sa'=dF sa\/dF sa'=some w.heap.size)->wpList P ops Q rest (a.put o.dst (.slice sa' (n+m) sc')) w') :
 wpList P ops Q (o :: rest) a w:=by
 obtain⟨i,hi,hz,hz1,hz2⟩:=info_parts hi;refine wpList_append_own_at w hgd s x t ho 0 e i z size bytes ht hi hz hz1 hz2 hzs hsz _ n xs hs hown ad m c news hx hl hnews h1 h63 hbytes (Nat.zero_le _) ?_;intro v' w' hown' hgrow _ hloc
 have hv:∃ sa' sc',v'=.slice sa' (n+m) sc':=by
  rcases hown'.2 with⟨h,h'⟩ | ⟨g,cap,cur,h,_⟩
  . exact⟨none,0,by rw[h,h']⟩
  . exact⟨_,_,h⟩
 obtain⟨sa',sc',rfl⟩:=hv;rw[jJ,jJ]at hloc;rw[jJ]at hgrow;exact h sa' sc' w' hown' (cq.grown hgrow fun k _ e=>e) hloc
theorem uF{P:Program}{w:World}{ops:Array Oper}{o:Oper}{a:Act}{K:Act->World->Prop}{Q:Exit->Act->World->Prop}{E:Prop}(hgd:o.guard=none)(s x:Operand)(t:TypeId)
 (ho:o.op=.call { callee:=.builtin .append,args:=#[s,x],argTypes:=#[t,t] })
 (e:TypeId) (z:Value) (size bytes:Nat) (ht:P.underlying t=some (.slice e)) (hi:(P.info? e).map (fun i=>(i.zero,i.size,i.bytes))=some (some z,size,bytes))
 (hzs:z.cells.size=size) (hsz:0<size)
 (sa:Option Addr) (n sc:Nat) (xs:List Value) (hs:a.eval s=.slice sa n sc) (hown:fp w e size sa n sc xs)
 (ad:Addr) (m c:Nat) (news:List Value) (hx:a.eval x=.slice (some ad) m c) (hl:news.length=m*size) (hnews:∀ j u,news[j]?=some u->w.cell? (ad.add j)=some u) (h1:∀ u ∈ news,u.oneCell'=true)
 (h63:n+m<=maxLen) (hbytes:(n+m)*bytes<=140737488355328)
 (h:∀ sa' sc' w',fp w' e size sa' (n+m) sc' (xs++news)->cq (fun k=>dF sa=some k) w w'->(dF sa'=dF sa\/dF sa'=some w.heap.size)->K (a.put o.dst (.slice sa' (n+m) sc')) w') :
 if Region.wanted o (yielded ops a.tmps)=true then Oper.wp P o a w K Q else E:=by
 have hw:Region.wanted o (yielded ops a.tmps)=true:=by simp[Region.wanted,hgd]
 rw[if_pos hw];obtain⟨i,hi,hz,hz1,hz2⟩:=info_parts hi;obtain⟨v',w',hrun,hown',hgrow,_,hloc⟩:=run_append_own_at (P:=P) w 0 t o.type e i z size bytes ht hi hz hz1 hz2 hzs hsz _ n xs hown ad m c news hl hnews h1 h63 hbytes (Nat.zero_le _)
 have hv:∃ sa' sc',v'=.slice sa' (n+m) sc':=by
  rcases hown'.2 with⟨h,h'⟩ | ⟨g,cap,cur,h,_⟩
  . exact⟨none,0,by rw[h,h']⟩
  . exact⟨_,_,h⟩
 obtain⟨sa',sc',rfl⟩:=hv;rw[jJ,jJ]at hloc;rw[jJ]at hgrow;have:=h sa' sc' w' hown' (cq.grown hgrow fun k _ e=>e) hloc
 unfold Oper.wp execOp;simp only[ho,resolve,invoke,builtin,Sem.run_bind,Sem.run_pure,Result.andThen_ok,List.map_toArray,List.map_cons,List.map_nil,hs,hx,hrun]
 exact this
theorem eD{P:Program}{f:Nat}{a:Array Value}{w:World}{E:Ending}{Q:Ending->World->Prop}(h:Calls P f a w fun e w2=>e=E/\w=w2)(c:Q E w):Calls P f a w Q:=h.mono fun _ _ ⟨he,hw⟩=>he ▸ hw ▸ c
theorem VB{P:Program}{f:Nat}{a:Array Value}{w:World}{E:Ending}{A:World->Prop}{Q:Ending->World->Prop}(h:Calls P f a w fun e w2=>e=E/\A w2)(c:∀ w2,Hid (A w2)->Q E w2):Calls P f a w Q:=h.mono fun _ w2 ⟨he,ha⟩=>he ▸ c w2 (Lib.hid ha)
theorem nv{P:Program}{f:Nat}{a:Array Value}{V w w0:World}{E:Ending}{A:World->Prop}{S:Nat->Prop}{Q:Ending->World->Prop}(h:Calls P f a V fun e w2=>e=E/\A w2/\cq S w w2)(k:Hid (cq S w0 w))(c:∀ w2,Hid (A w2)->Hid (cq S w0 w2)->Q E w2):Calls P f a V Q:=h.mono fun _ w2 ⟨he,ha,hk⟩=>he ▸ c w2 (Lib.hid ha) (Lib.hid (k.out.trans hk))
end Go.Proofs.K
namespace Go.Proofs
open Go.Proofs.K
theorem h_{p : Prop}(h : p) : Go.RowKit.Hid p := h
theorem fw(w : Go.World) : cq (fun _ => False) w w.drew := cq.drew _ w
theorem dR(w : Go.World)(o : Go.Obj) : cq (fun _ => False) w (w.alloc o) := cq.alloc _ w o
abbrev cD(n : Nat) : Go.Value := .pointer (some ⟨n, 0, none⟩)
abbrev I_(n : Int) : Go.Value := .int .i64 n
abbrev S_(l : List UInt8) : Go.Value := .string ⟨l.toArray⟩
abbrev C_(w : Go.World)(b i : Nat) : Option Go.Value := w.cell? ⟨b, i, none⟩
abbrev K_ : Go.World -> Go.World -> Prop := cq (fun _ => False)
end Go.Proofs
set_option maxRecDepth 10000
namespace Go.Proofs.K
open Go Go.RowKit
theorem CH{P:Program}{w:World}{b:Array Oper}{c:List Oper}{o:Oper}{a:Act}{Q:Exit->Act->World->Prop}(e:o.guard=none)(v:Value)(w':World)
 (h:(execOp a.eval o).run P w=.ok (.value v) w') (f:wpList P b Q c (a.put o.dst v) w'):wpList P b Q (o :: c) a w:=by
 refine wpList_plain e fun K d=>?_;unfold Oper.wp;rw[h];exact d _ _ f
theorem yE{P:Program}(w:World)(f x y c:TypeId)(g o a l:Nat)(s:ByteArray)(cur:Array Value)(t:TypeId)
 (u:P.underlying f=some (.slice c)) (j:(P.info? c).map (·.size)=some 1)
 (n:w.heap[g]?=some (.cells cur t (0,0))) (r:s.size<=a) (m:o+s.size<=cur.size) :
 (Builtin.copy_ #[f,x] y #[.slice (some ⟨g,o,none⟩) a l,.string s]).run P w =
  .ok (goInt s.size) (w.setRow g (cur.toList.take o++(s.data.toList.map fun b=>Value.int .u8 b.toNat)++cur.toList.drop (o+s.size)).toArray):=by
 have h:(s.data.toList.map fun b=>Value.int .u8 (b.toNat:Int)).length=s.size:=by simp
 have e:=run_storeCells_at P g o t (s.data.toList.map fun b=>Value.int .u8 (b.toNat:Int)) 0 cur w n (by rw[h];simpa using m) (by intro v k;simp at k;obtain⟨b,_,rfl⟩:=k;rfl);rw[h]at e;have q:Nat.min s.size a=s.size:=Nat.min_eq_left r;have hex:(s.extract 0 s.size).data.map (fun b=>Value.int .u8 (b.toNat:Int))=(s.data.toList.map fun b=>Value.int .u8 (b.toNat:Int)).toArray:=by
  have:s.extract 0 s.size=s:=by simp
  rw[this];apply Array.ext';simp
 cases d:P.info? c with
 | none=>simp[d]at j
 | some i =>
  have p:i.size=1:=by simpa[d] using j
  simp only[Nat.add_zero]at e;simp only[Builtin.copy_,List.getElem?_toArray,List.getElem?_cons_zero,List.getElem?_cons_succ,Sem.run_bind,run_underlying u,Result.andThen_ok,Builtin.lenOf,Builtin.firstCells,Sem.run_pure,sizeOf,typeInfo,q,hex];simp[d,p,e]
theorem Ab{w:World}{b:Nat}{a c d:Value}{t:TypeId}{f:Nat × Nat}(h:w.heap[b]?=some (.cells #[a,c,d] t f))(x y z:Value) :
 (((w.setCell ⟨b,0,none⟩ x).setCell ⟨b,1,none⟩ y).setCell ⟨b,2,none⟩ z).heap[b]?=some (.cells #[x,y,z] t f):=cz (cz (cz h x) y) z
theorem cq.dW{S:Nat->Prop}{w a:World}(k:cq S w a)(p:Addr)(u:Value)(c:w.heap.size<=p.block):cq S w (a.setCell p u) :=
 k.dh (cq.setCell (S:=fun j=>j=p.block) a p u (fun _=>rfl)) (fun i b e=>by subst e;omega)
end Go.Proofs.K
