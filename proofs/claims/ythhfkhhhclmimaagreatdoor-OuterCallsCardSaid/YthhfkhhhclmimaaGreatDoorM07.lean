/- Of CallsG: DictS, WDict, WDictB, WDictC, WDictD, WWords. No condition. -/
import Derived.Test.YthhfkhhhclmimaaGreatDoorM06
import Derived.Test.YthhfkhhhclmimaaGreatDoorProg
import Derived.Deep.Slices
set_option linter.unusedVariables false
set_option linter.unusedSimpArgs false
set_option maxRecDepth 10000
namespace Go.Proofs.Shed
open Go Go.RowKit Go.Proofs.K
inductive Pk where
 | plain (f:Nat)
 | with_ (n:Int) (f:Nat)
 | push (f:Nat)
 | moves (n:Int) (l:List Int)
 | look (f:Nat)
 | two (op:List UInt8)
 | one (op:List UInt8)
 deriving DecidableEq
def fnV (f:Nat):Value:=.func (.func f) #[] #[]
def Box (X:Nat→Prop) (w:World) (a:Value) (u:Value):Prop:=∃ g t,a=.pointer (some ⟨g,0,none⟩)∧X g∧w.heap[g]?=some (.cells #[u] t (0,0))
def NoRow (w:World) (g:Nat):Prop:=∀ cs t f,w.heap[g]?≠some (.cells cs t f)
theorem MapIs.noRow {P:Program} {k:TypeId} {α:Type} {kk:Key P k α} {w:World} {b n:Nat} {f:α→Option Value} (h:MapIs kk w b n f):NoRow w b:=by
 obtain ⟨D,⟨es,clock,hb,_⟩,_⟩:=h;intro cs t f e;rw [hb] at e
 cases e
def KeepX (X:Nat→Prop) (w w':World):Prop:=∀ g cs t f,X g→w.heap[g]?=some (.cells cs t f)→w'.heap[g]?=some (.cells cs t f)
theorem KeepX.of {S X:Nat→Prop} {w w':World} (k:Keeps S w w') (h:∀ g,X g→S g→NoRow w g):KeepX X w w':=fun g _ _ _ hx hb=>k.heap hb (fun hs=>h g hx hs _ _ _ hb)
theorem KeepX.of0 {X:Nat→Prop} {w w':World} (k:Keeps (fun _=>False) w w'):KeepX X w w':=KeepX.of k (fun _ _ h=>h.elim)
theorem Box.keeps {X:Nat→Prop} {w w':World} {a u:Value} (h:Box X w a u) (k:KeepX X w w'):Box X w' a u:=by
 obtain ⟨g,t,rfl,hx,hc⟩:=h;exact ⟨g,t,rfl,hx,k g _ _ _ hx hc⟩
theorem Box.mono {X Y:Nat→Prop} {w:World} {a u:Value} (h:Box X w a u) (k:∀ g,g<w.heap.size→X g→Y g):Box Y w a u:=by
 obtain ⟨g,t,rfl,hx,hc⟩:=h;exact ⟨g,t,rfl,k g (lt_of_heap hc) hx,hc⟩
def With (X:Nat→Prop) (w:World) (n:Int) (d:Value) (v:Value):Prop:=∃ a b,v=.func (.func 406) #[] #[a,b]∧Box X w a (.int .i64 n)∧Box X w b d
theorem With.keeps {X:Nat→Prop} {w w':World} {n:Int} {d v:Value} (h:With X w n d v) (k:KeepX X w w'):With X w' n d v:=by
 obtain ⟨a,b,rfl,h1,h2⟩:=h;exact ⟨a,b,rfl,h1.keeps k,h2.keeps k⟩
theorem With.mono {X Y:Nat→Prop} {w:World} {n:Int} {d v:Value} (h:With X w n d v) (k:∀ g,g<w.heap.size→X g→Y g):With Y w n d v:=by
 obtain ⟨a,b,rfl,h1,h2⟩:=h;exact ⟨a,b,rfl,h1.mono k,h2.mono k⟩
def Good (X:Nat→Prop) (w:World):Pk→Value→Prop
 | .plain f,v=>v=fnV f
 | .with_ n f,v=>With X w n (fnV f) v
 | .push f,v=>∃ a,v=.func (.func 405) #[] #[a]∧Box X w a (fnV f)
 | .moves n l,v=>∃ a b s c,v=.func (.func 409) #[] #[a,b]∧Box X w a (.int .i64 n)∧Box X w b (.slice s l.length c)∧Own w 3 1 s l.length c (l.map (Value.int .i64))∧∀ g,blk s=some g→X g
 | .look f,v=>∃ a,With X w 1 (.func (.func 413) #[] #[a]) v∧Box X w a (fnV f)
 | .two op,v=>∃ a,With X w 2 (.func (.func 320) #[] #[a]) v∧Box X w a (.string ⟨op.toArray⟩)
 | .one op,v=>∃ a,With X w 1 (.func (.func 322) #[] #[a]) v∧Box X w a (.string ⟨op.toArray⟩)
theorem own_keepX {X:Nat→Prop} {w w':World} {e:TypeId} {size:Nat} {a:Option Addr} {n c:Nat} {xs:List Value} (h:Own w e size a n c xs) (k:KeepX X w w') (hs:∀ g,blk a=some g→X g):Own w' e size a n c xs:=by
 refine ⟨h.1,?_⟩
 rcases h.2 with h | ⟨g,cap,cur,hv,hb,hh,r⟩
 · exact .inl h
 · refine .inr ⟨g,cap,cur,hv,hb,k g _ _ _ (hs g ?_) hh,r⟩
   cases hv;rfl
theorem Good.keeps {X:Nat→Prop} {w w':World} {kd:Pk} {v:Value} (h:Good X w kd v) (k:KeepX X w w'):Good X w' kd v:=by
 cases kd with
 | plain f=>exact h
 | with_ n f=>exact With.keeps h k
 | push f =>
  obtain ⟨a,rfl,h1⟩:=h;exact ⟨a,rfl,h1.keeps k⟩
 | moves n l =>
  obtain ⟨a,b,s,c,rfl,h1,h2,h3,h4⟩:=h;exact ⟨a,b,s,c,rfl,h1.keeps k,h2.keeps k,own_keepX h3 k h4,h4⟩
 | look f =>
  obtain ⟨a,h1,h2⟩:=h;exact ⟨a,h1.keeps k,h2.keeps k⟩
 | two op =>
  obtain ⟨a,h1,h2⟩:=h;exact ⟨a,h1.keeps k,h2.keeps k⟩
 | one op =>
  obtain ⟨a,h1,h2⟩:=h;exact ⟨a,h1.keeps k,h2.keeps k⟩
theorem Good.mono {X Y:Nat→Prop} {w:World} {kd:Pk} {v:Value} (h:Good X w kd v) (k:∀ g,g<w.heap.size→X g→Y g):Good Y w kd v:=by
 cases kd with
 | plain f=>exact h
 | with_ n f=>exact With.mono h k
 | push f =>
  obtain ⟨a,rfl,h1⟩:=h;exact ⟨a,rfl,h1.mono k⟩
 | moves n l =>
  obtain ⟨a,b,s,c,rfl,h1,h2,h3,h4⟩:=h;exact ⟨a,b,s,c,rfl,h1.mono k,h2.mono k,h3,fun g hg=>k g (Own.lt h3 hg) (h4 g hg)⟩
 | look f =>
  obtain ⟨a,h1,h2⟩:=h;exact ⟨a,h1.mono k,h2.mono k⟩
 | two op =>
  obtain ⟨a,h1,h2⟩:=h;exact ⟨a,h1.mono k,h2.mono k⟩
 | one op =>
  obtain ⟨a,h1,h2⟩:=h;exact ⟨a,h1.mono k,h2.mono k⟩
theorem sk_keyed:Go.Maps.Keyed Tryz.prog 9:=Go.Maps.string_keyed Tryz.underlying9
theorem sk_reads (s:List UInt8) (hs:s.length≤maxLen):keyOf Tryz.prog 9 (.string ⟨s.toArray⟩)=some (.string s):=(strKey Tryz.underlying9).reads s hs
theorem sk_inv (v:Value) (kl:Lit) (h:keyOf Tryz.prog 9 v=some kl):∃ s:List UInt8,s.length≤maxLen∧v=.string ⟨s.toArray⟩∧kl=.string s:=(strKey Tryz.underlying9).inv v kl h
def sk:Key Tryz.prog 9 (List UInt8) where
 val s:=.string ⟨s.toArray⟩
 lit s:=.string s
 ok s:=s.length≤maxLen
 kd:=sk_keyed
 reads:=sk_reads
 inv:=sk_inv
 inj x y h:=by injection h
 isk x:=trivial
def Goods (X:Nat→Prop) (w:World) (K:List UInt8→Option Pk) (f:List UInt8→Option Value):Prop:=∀ s,match K s with
 | none=>f s=none
 | some kd=>∃ v,f s=some v∧Good X w kd v
theorem Goods.keeps {X:Nat→Prop} {w w':World} {K:List UInt8→Option Pk} {f:List UInt8→Option Value} (h:Goods X w K f) (k:KeepX X w w'):Goods X w' K f:=by
 intro s;have hs:=h s
 cases hk:K s with
 | none=>simp only [hk] at hs ⊢;exact hs
 | some kd =>
  simp only [hk] at hs ⊢
  obtain ⟨v,h1,h2⟩:=hs;exact ⟨v,h1,h2.keeps k⟩
theorem Goods.mono {X Y:Nat→Prop} {w:World} {K:List UInt8→Option Pk} {f:List UInt8→Option Value} (h:Goods X w K f) (k:∀ g,g<w.heap.size→X g→Y g):Goods Y w K f:=by
 intro s;have hs:=h s
 cases hk:K s with
 | none=>simp only [hk] at hs ⊢;exact hs
 | some kd =>
  simp only [hk] at hs ⊢
  obtain ⟨v,h1,h2⟩:=hs;exact ⟨v,h1,h2.mono k⟩
def kput (K:List UInt8→Option Pk) (x:List UInt8) (kd:Pk):List UInt8→Option Pk:=fun y=>if y=x then some kd else K y
theorem Goods.put {X:Nat→Prop} {w:World} {K:List UInt8→Option Pk} {f:List UInt8→Option Value} (h:Goods X w K f) (x:List UInt8) {kd:Pk} {v:Value} (g:Good X w kd v):Goods X w (kput K x kd) (upd f x v):=by
 intro s;unfold kput upd;by_cases e:s=x
 · rw [if_pos e,if_pos e];exact ⟨v,rfl,g⟩
 · rw [if_neg e,if_neg e];exact h s
def Dict (w0 w:World) (b n:Nat) (K:List UInt8→Option Pk):Prop :=
 ∃ f,MapIs sk w b n f∧Goods (fun g=>w0.heap.size≤g) w K f∧w0.heap.size≤b∧Keeps (fun _=>False) w0 w
theorem Dict.made (w:World):Dict w (w.alloc (.map #[] 0)) w.heap.size 0 (fun _=>none):=⟨_,MapIs.made sk w,fun _=>rfl,Nat.le_refl _,Keeps.alloc _ _ _⟩
theorem Dict.keeps {w0 w w':World} {b n:Nat} {K:List UInt8→Option Pk} (h:Dict w0 w b n K) (k:Keeps (fun _=>False) w w'):Dict w0 w' b n K:=by
 obtain ⟨f,h1,h2,h3,h4⟩:=h;exact ⟨f,h1.keeps k id,h2.keeps (KeepX.of0 k),h3,h4.trans k⟩
theorem Dict.size {w0 w:World} {b n:Nat} {K:List UInt8→Option Pk} (h:Dict w0 w b n K):w0.heap.size≤w.heap.size:=by
 obtain ⟨f,h1,h2,h3,h4⟩:=h;exact h4.size
theorem wpList_dict {w0:World} (w:World) {ops:Array Oper} {rest:List Oper} {o:Oper} {a:Act} {Q:Exit→Act→World→Prop} (hg:o.guard=none) (m x v:Operand) (hop:o.op=Op.mapUpdate 235 m x v∨o.op=Op.insert 235 m x v) (b n:Nat) (K:List UInt8→Option Pk)
 (hm:a.eval m=.map (some b)) (hown:Dict w0 w b n K) (hn:n<1000) (s:List UInt8) (hs:s.length≤1000) (val:Value) (hx:a.eval x=.string ⟨s.toArray⟩) (hv:a.eval v=val) (kd:Pk) (gd:Good (fun g=>w0.heap.size≤g) w kd val)
 (hK:∀ w',Dict w0 w' b (n+1) (kput K s kd)→wpList Tryz.prog ops Q rest (a.put o.dst undef) w'):wpList Tryz.prog ops Q (o :: rest) a w:=by
 obtain ⟨f,h1,h2,h3,h4⟩:=hown;refine wpList_put sk w hg m x v 235 hop _ Tryz.underlying235 b n f hm h1 (by unfold maxLen;omega) s (Nat.le_trans hs (by unfold maxLen;omega)) val hx hv ?_
 intro w' h5 h6
 have hx:=KeepX.of (X:=fun g=>w0.heap.size≤g) h6 (fun g _ e=>by
  have e:g=b:=e
  rw [e];exact MapIs.noRow h1)
 exact hK w' ⟨_,h5,(h2.keeps hx).put s (gd.keeps hx),h3,h4.trans' h6 (fun i hi e=>by
  have e:i=b:=e
  omega)⟩
def DictPost (w:World) (n:Nat) (K:List UInt8→Option Pk) (e:Ending) (w':World):Prop:=∃ b,e=.returned (.map (some b))∧Dict w w' b n K
set_option maxHeartbeats 2000000
theorem hmf (fn:Fn) (first cap:Array Value) (w:World):(Instr.makeFunc fn first cap).run Tryz.prog w=.ok (.func fn first cap) w:=rfl
theorem halloc_2 (w:World) (o1 o2:Obj):((w.alloc o1).alloc o2).heap[w.heap.size+1]?=some o2:=by
 have h:=halloc_at (w.alloc o1) o2
 rwa [show (w.alloc o1).heap.size=w.heap.size+1 by simp] at h
theorem vm_with (w:World) (B:Nat) (hB:B≤w.heap.size) (n:Int) (fn:Fn) (cap:Array Value):Calls Tryz.prog 299 #[.int .i64 n,.func fn #[] cap] w fun e w'=>∃ v,e=.returned v∧With (fun g=>B≤g) w' n (.func fn #[] cap) v∧Keeps (fun _=>False) w w':=by
 have hmf:=hmf;have HB:=h_ hB;clear hB
 go_enter Tryz.func299,Tryz.ntmps299
 go_wp2_with fail;go_ret
 refine ⟨_,rfl,⟨_,_,rfl,⟨w.heap.size,3,rfl,HB.out,?_⟩,⟨w.heap.size+1,368,rfl,Nat.le_succ_of_le HB.out,?_⟩⟩,(Keeps.alloc _ _ _).trans (Keeps.alloc _ _ _)⟩
 · exact (halloc_old _ _ (by simp)).trans (halloc_at w _)
 · exact halloc_2 _ _ _
theorem vm_withG (w:World) (B:Nat) (hB:B≤w.heap.size) (n:Int) (fn:Nat):Calls Tryz.prog 299 #[.int .i64 n,.func (.func fn) #[] #[]] w fun e w'=>∃ v,e=.returned v∧Good (fun g=>B≤g) w' (.with_ n fn) v∧Keeps (fun _=>False) w w':=vm_with w B hB n (.func fn) #[]
theorem vm_push (w:World) (B:Nat) (hB:B≤w.heap.size) (fn:Nat):Calls Tryz.prog 296 #[.func (.func fn) #[] #[]] w fun e w'=>∃ v,e=.returned v∧Good (fun g=>B≤g) w' (.push fn) v∧Keeps (fun _=>False) w w':=by
 have hmf:=hmf;have HB:=h_ hB;clear hB
 go_enter Tryz.func296,Tryz.ntmps296
 go_wp2_with fail;go_ret
 exact ⟨_,rfl,⟨_,rfl,⟨w.heap.size,_,rfl,HB.out,halloc_at w _⟩⟩,Keeps.alloc _ _ _⟩
theorem vm_look (w:World) (B:Nat) (hB:B≤w.heap.size) (fn:Nat):Calls Tryz.prog 323 #[.func (.func fn) #[] #[]] w fun e w'=>∃ v,e=.returned v∧Good (fun g=>B≤g) w' (.look fn) v∧Keeps (fun _=>False) w w':=by
 have hmf:=hmf;have HB:=h_ hB;have hW:=h_ fun (V:World) (h:B≤V.heap.size)=>vm_with V B h 1 (.func 413) #[.pointer (some ⟨w.heap.size,0,none⟩)]
 clear hB
 go_enter Tryz.func323,Tryz.ntmps323
 go_wp2_with fail;refine (hW.out _ (by simp;have:=HB.out;omega)).mono ?_
 rintro e w1 ⟨v,rfl,h1,k1⟩;have H1:=h_ h1;have K1:=h_ k1;clear h1 k1;go_wp2_with fail;go_ret
 exact ⟨_,rfl,⟨_,H1.out,⟨w.heap.size,_,rfl,HB.out,K1.out.heap (halloc_at w _) id⟩⟩,(Keeps.alloc _ _ _).trans K1.out⟩
theorem own_new (w:World) (e:TypeId) (xs:List Value) (n g:Nat) (h:xs.length=n) (hg:w.heap.size=g) (hn:n≤maxLen):Own (w.alloc (.cells xs.toArray e)) e 1 (some ⟨g,0,none⟩) n n xs:=by
 subst hg;refine ⟨by rw [h];simp,.inr ⟨w.heap.size,n,_,rfl,Nat.zero_le _,halloc_at _ _,Nat.le_refl _,hn,by simpa using h,?_⟩⟩
 show xs.take (n*1)=xs
 rw [Nat.mul_one,← h];exact List.take_length
theorem vm_moves (w:World) (B:Nat) (hB:B≤w.heap.size) (n:Int) (s:Option Addr) (m c:Nat) (l:List Int) (hl:l.length=m) (ho:Own w 3 1 s m c (l.map (Value.int .i64))) (hs:∀ g,blk s=some g→B≤g) :
 Calls Tryz.prog 312 #[.int .i64 n,.slice s m c] w fun e w'=>∃ v,e=.returned v∧Good (fun g=>B≤g) w' (.moves n l) v∧Keeps (fun _=>False) w w':=by
 have hmf:=hmf;have HB:=h_ hB;have HO:=h_ ho;have HS:=h_ hs;have HL:=h_ hl;clear hB ho hs hl
 go_enter Tryz.func312,Tryz.ntmps312
 go_wp2_with fail;go_ret
 refine ⟨_,rfl,⟨.pointer (some ⟨w.heap.size,0,none⟩),.pointer (some ⟨w.heap.size+1,0,none⟩),s,c,rfl,⟨w.heap.size,3,rfl,HB.out,(halloc_old _ _ (by simp)).trans (halloc_at w _)⟩,⟨w.heap.size+1,402,rfl,Nat.le_succ_of_le HB.out,?_⟩,?_,HS.out⟩,(Keeps.alloc _ _ _).trans (Keeps.alloc _ _ _)⟩
 · rw [HL.out];exact halloc_2 _ _ _
 · rw [HL.out]
   exact HO.out.keeps ((ka_ _ _).trans (Keeps.alloc _ _ _)) (fun _ _=>id)
set_option maxHeartbeats 4000000
def K_telling:List UInt8→Option Pk:=kput (kput (kput (kput (kput (kput (kput (fun _=>none) [101,109,105,116] (.with_ 1 342)) [99,114] (.plain 343)) [115,112,97,99,101] (.plain 344)) [116,121,112,101] (.with_ 2 345)) [46] (.with_ 1 346)) [117,46] (.with_ 1 348)) [107,101,121] (.push 349)
theorem vm_telling (w:World):Calls Tryz.prog 203 #[] w (DictPost w 7 K_telling):=by
 have hmm:=@run_makeMap Tryz.prog;have DK:=h_ (Dict.made w)
 go_enter Tryz.func203,Tryz.ntmps203
 go_wp2_with fail;refine (vm_withG _ _ DK.out.size 1 342).mono ?_;rintro e w1 ⟨v,rfl,gd,kp⟩;replace DK:=h_ (DK.out.keeps kp);replace GD:=h_ gd;clear kp gd
 go_wp2_with (first
  | (refine wpList_dict _ rfl _ _ _ (.inr rfl) _ 0 _ rfl DK.out (by decide) [101,109,105,116] (by decide) v rfl rfl (.with_ 1 342) GD.out ?_;intro w2 dk;replace DK:=h_ dk;clear dk)
  | (refine wpList_dict _ rfl _ _ _ (.inr rfl) _ 1 _ rfl DK.out (by decide) [99,114] (by decide) (fnV 343) rfl rfl (.plain 343) rfl ?_;intro w2 dk;replace DK:=h_ dk;clear dk)
  | (refine wpList_dict _ rfl _ _ _ (.inr rfl) _ 2 _ rfl DK.out (by decide) [115,112,97,99,101] (by decide) (fnV 344) rfl rfl (.plain 344) rfl ?_;intro w2 dk;replace DK:=h_ dk;clear dk))
 refine (vm_withG _ _ DK.out.size 2 345).mono ?_;rintro e w1 ⟨v,rfl,gd,kp⟩;replace DK:=h_ (DK.out.keeps kp);replace GD:=h_ gd;clear kp gd
 go_wp2_with (first
  | (refine wpList_dict _ rfl _ _ _ (.inr rfl) _ 3 _ rfl DK.out (by decide) [116,121,112,101] (by decide) v rfl rfl (.with_ 2 345) GD.out ?_;intro w2 dk;replace DK:=h_ dk;clear dk))
 refine (vm_withG _ _ DK.out.size 1 346).mono ?_;rintro e w1 ⟨v,rfl,gd,kp⟩;replace DK:=h_ (DK.out.keeps kp);replace GD:=h_ gd;clear kp gd
 go_wp2_with (first
  | (refine wpList_dict _ rfl _ _ _ (.inr rfl) _ 4 _ rfl DK.out (by decide) [46] (by decide) v rfl rfl (.with_ 1 346) GD.out ?_;intro w2 dk;replace DK:=h_ dk;clear dk))
 refine (vm_withG _ _ DK.out.size 1 348).mono ?_;rintro e w1 ⟨v,rfl,gd,kp⟩;replace DK:=h_ (DK.out.keeps kp);replace GD:=h_ gd;clear kp gd
 go_wp2_with (first
  | (refine wpList_dict _ rfl _ _ _ (.inr rfl) _ 5 _ rfl DK.out (by decide) [117,46] (by decide) v rfl rfl (.with_ 1 348) GD.out ?_;intro w2 dk;replace DK:=h_ dk;clear dk))
 refine (vm_push _ _ DK.out.size 349).mono ?_;rintro e w1 ⟨v,rfl,gd,kp⟩;replace DK:=h_ (DK.out.keeps kp);replace GD:=h_ gd;clear kp gd
 go_wp2_with (first
  | (refine wpList_dict _ rfl _ _ _ (.inr rfl) _ 6 _ rfl DK.out (by decide) [107,101,121] (by decide) v rfl rfl (.push 349) GD.out ?_;intro w2 dk;replace DK:=h_ dk;clear dk))
 go_ret
 exact ⟨_,rfl,DK.out⟩
def K_catching:List UInt8→Option Pk:=kput (kput (kput (kput (fun _=>none) [99,97,116,99,104] (.with_ 1 350)) [40,99,97,117,103,104,116,41] (.plain 351)) [116,104,114,111,119] (.with_ 1 353)) [97,98,111,114,116] (.plain 354)
theorem vm_catching (w:World):Calls Tryz.prog 204 #[] w (DictPost w 4 K_catching):=by
 have hmm:=@run_makeMap Tryz.prog;have DK:=h_ (Dict.made w)
 go_enter Tryz.func204,Tryz.ntmps204
 go_wp2_with fail;refine (vm_withG _ _ DK.out.size 1 350).mono ?_;rintro e w1 ⟨v,rfl,gd,kp⟩;replace DK:=h_ (DK.out.keeps kp);replace GD:=h_ gd;clear kp gd
 go_wp2_with (first
  | (refine wpList_dict _ rfl _ _ _ (.inr rfl) _ 0 _ rfl DK.out (by decide) [99,97,116,99,104] (by decide) v rfl rfl (.with_ 1 350) GD.out ?_;intro w2 dk;replace DK:=h_ dk;clear dk)
  | (refine wpList_dict _ rfl _ _ _ (.inr rfl) _ 1 _ rfl DK.out (by decide) [40,99,97,117,103,104,116,41] (by decide) (fnV 351) rfl rfl (.plain 351) rfl ?_;intro w2 dk;replace DK:=h_ dk;clear dk))
 refine (vm_withG _ _ DK.out.size 1 353).mono ?_;rintro e w1 ⟨v,rfl,gd,kp⟩;replace DK:=h_ (DK.out.keeps kp);replace GD:=h_ gd;clear kp gd
 go_wp2_with (first
  | (refine wpList_dict _ rfl _ _ _ (.inr rfl) _ 2 _ rfl DK.out (by decide) [116,104,114,111,119] (by decide) v rfl rfl (.with_ 1 353) GD.out ?_;intro w2 dk;replace DK:=h_ dk;clear dk)
  | (refine wpList_dict _ rfl _ _ _ (.inr rfl) _ 3 _ rfl DK.out (by decide) [97,98,111,114,116] (by decide) (fnV 354) rfl rfl (.plain 354) rfl ?_;intro w2 dk;replace DK:=h_ dk;clear dk))
 go_ret
 exact ⟨_,rfl,DK.out⟩
def K_objects:List UInt8→Option Pk:=kput (kput (kput (kput (kput (kput (kput (fun _=>none) [115,101,108,102] (.push 355)) [110,101,119] (.with_ 1 356)) [99,108,97,115,115,111,102] (.with_ 1 358)) [40,115,101,110,100,41] (.with_ 1 360)) [40,99,97,108,108,41] (.with_ 1 362)) [40,115,117,112,101,114,41] (.plain 364)) [40,101,120,105,116,109,41] (.plain 365)
theorem vm_objects (w:World):Calls Tryz.prog 205 #[] w (DictPost w 7 K_objects):=by
 have hmm:=@run_makeMap Tryz.prog;have DK:=h_ (Dict.made w)
 go_enter Tryz.func205,Tryz.ntmps205
 go_wp2_with fail;refine (vm_push _ _ DK.out.size 355).mono ?_;rintro e w1 ⟨v,rfl,gd,kp⟩;replace DK:=h_ (DK.out.keeps kp);replace GD:=h_ gd;clear kp gd
 go_wp2_with (first
  | (refine wpList_dict _ rfl _ _ _ (.inr rfl) _ 0 _ rfl DK.out (by decide) [115,101,108,102] (by decide) v rfl rfl (.push 355) GD.out ?_;intro w2 dk;replace DK:=h_ dk;clear dk))
 refine (vm_withG _ _ DK.out.size 1 356).mono ?_;rintro e w1 ⟨v,rfl,gd,kp⟩;replace DK:=h_ (DK.out.keeps kp);replace GD:=h_ gd;clear kp gd
 go_wp2_with (first
  | (refine wpList_dict _ rfl _ _ _ (.inr rfl) _ 1 _ rfl DK.out (by decide) [110,101,119] (by decide) v rfl rfl (.with_ 1 356) GD.out ?_;intro w2 dk;replace DK:=h_ dk;clear dk))
 refine (vm_withG _ _ DK.out.size 1 358).mono ?_;rintro e w1 ⟨v,rfl,gd,kp⟩;replace DK:=h_ (DK.out.keeps kp);replace GD:=h_ gd;clear kp gd
 go_wp2_with (first
  | (refine wpList_dict _ rfl _ _ _ (.inr rfl) _ 2 _ rfl DK.out (by decide) [99,108,97,115,115,111,102] (by decide) v rfl rfl (.with_ 1 358) GD.out ?_;intro w2 dk;replace DK:=h_ dk;clear dk))
 refine (vm_withG _ _ DK.out.size 1 360).mono ?_;rintro e w1 ⟨v,rfl,gd,kp⟩;replace DK:=h_ (DK.out.keeps kp);replace GD:=h_ gd;clear kp gd
 go_wp2_with (first
  | (refine wpList_dict _ rfl _ _ _ (.inr rfl) _ 3 _ rfl DK.out (by decide) [40,115,101,110,100,41] (by decide) v rfl rfl (.with_ 1 360) GD.out ?_;intro w2 dk;replace DK:=h_ dk;clear dk))
 refine (vm_withG _ _ DK.out.size 1 362).mono ?_;rintro e w1 ⟨v,rfl,gd,kp⟩;replace DK:=h_ (DK.out.keeps kp);replace GD:=h_ gd;clear kp gd
 go_wp2_with (first
  | (refine wpList_dict _ rfl _ _ _ (.inr rfl) _ 4 _ rfl DK.out (by decide) [40,99,97,108,108,41] (by decide) v rfl rfl (.with_ 1 362) GD.out ?_;intro w2 dk;replace DK:=h_ dk;clear dk)
  | (refine wpList_dict _ rfl _ _ _ (.inr rfl) _ 5 _ rfl DK.out (by decide) [40,115,117,112,101,114,41] (by decide) (fnV 364) rfl rfl (.plain 364) rfl ?_;intro w2 dk;replace DK:=h_ dk;clear dk)
  | (refine wpList_dict _ rfl _ _ _ (.inr rfl) _ 6 _ rfl DK.out (by decide) [40,101,120,105,116,109,41] (by decide) (fnV 365) rfl rfl (.plain 365) rfl ?_;intro w2 dk;replace DK:=h_ dk;clear dk))
 go_ret
 exact ⟨_,rfl,DK.out⟩
def K_storing:List UInt8→Option Pk:=kput (kput (kput (kput (kput (kput (kput (kput (kput (kput (kput (kput (kput (fun _=>none) [64] (.look 324)) [99,64] (.look 325)) [33] (.with_ 2 327)) [99,33] (.with_ 2 328)) [43,33] (.with_ 2 330)) [104,101,114,101] (.push 331)) [97,108,108,111,116] (.with_ 1 332)) [44] (.with_ 1 333)) [99,44] (.with_ 1 334)) [97,108,105,103,110] (.plain 335)) [97,108,108,111,99,97,116,101] (.with_ 1 336)) [102,114,101,101] (.with_ 1 338)) [114,101,115,105,122,101] (.with_ 2 340)
theorem vm_storing (w:World):Calls Tryz.prog 202 #[] w (DictPost w 13 K_storing):=by
 have hmm:=@run_makeMap Tryz.prog;have DK:=h_ (Dict.made w)
 go_enter Tryz.func202,Tryz.ntmps202
 go_wp2_with fail;refine (vm_look _ _ DK.out.size 324).mono ?_;rintro e w1 ⟨v,rfl,gd,kp⟩;replace DK:=h_ (DK.out.keeps kp);replace GD:=h_ gd;clear kp gd
 go_wp2_with (first
  | (refine wpList_dict _ rfl _ _ _ (.inr rfl) _ 0 _ rfl DK.out (by decide) [64] (by decide) v rfl rfl (.look 324) GD.out ?_;intro w2 dk;replace DK:=h_ dk;clear dk))
 refine (vm_look _ _ DK.out.size 325).mono ?_;rintro e w1 ⟨v,rfl,gd,kp⟩;replace DK:=h_ (DK.out.keeps kp);replace GD:=h_ gd;clear kp gd
 go_wp2_with (first
  | (refine wpList_dict _ rfl _ _ _ (.inr rfl) _ 1 _ rfl DK.out (by decide) [99,64] (by decide) v rfl rfl (.look 325) GD.out ?_;intro w2 dk;replace DK:=h_ dk;clear dk))
 refine (vm_withG _ _ DK.out.size 2 327).mono ?_;rintro e w1 ⟨v,rfl,gd,kp⟩;replace DK:=h_ (DK.out.keeps kp);replace GD:=h_ gd;clear kp gd
 go_wp2_with (first
  | (refine wpList_dict _ rfl _ _ _ (.inr rfl) _ 2 _ rfl DK.out (by decide) [33] (by decide) v rfl rfl (.with_ 2 327) GD.out ?_;intro w2 dk;replace DK:=h_ dk;clear dk))
 refine (vm_withG _ _ DK.out.size 2 328).mono ?_;rintro e w1 ⟨v,rfl,gd,kp⟩;replace DK:=h_ (DK.out.keeps kp);replace GD:=h_ gd;clear kp gd
 go_wp2_with (first
  | (refine wpList_dict _ rfl _ _ _ (.inr rfl) _ 3 _ rfl DK.out (by decide) [99,33] (by decide) v rfl rfl (.with_ 2 328) GD.out ?_;intro w2 dk;replace DK:=h_ dk;clear dk))
 refine (vm_withG _ _ DK.out.size 2 330).mono ?_;rintro e w1 ⟨v,rfl,gd,kp⟩;replace DK:=h_ (DK.out.keeps kp);replace GD:=h_ gd;clear kp gd
 go_wp2_with (first
  | (refine wpList_dict _ rfl _ _ _ (.inr rfl) _ 4 _ rfl DK.out (by decide) [43,33] (by decide) v rfl rfl (.with_ 2 330) GD.out ?_;intro w2 dk;replace DK:=h_ dk;clear dk))
 refine (vm_push _ _ DK.out.size 331).mono ?_;rintro e w1 ⟨v,rfl,gd,kp⟩;replace DK:=h_ (DK.out.keeps kp);replace GD:=h_ gd;clear kp gd
 go_wp2_with (first
  | (refine wpList_dict _ rfl _ _ _ (.inr rfl) _ 5 _ rfl DK.out (by decide) [104,101,114,101] (by decide) v rfl rfl (.push 331) GD.out ?_;intro w2 dk;replace DK:=h_ dk;clear dk))
 refine (vm_withG _ _ DK.out.size 1 332).mono ?_;rintro e w1 ⟨v,rfl,gd,kp⟩;replace DK:=h_ (DK.out.keeps kp);replace GD:=h_ gd;clear kp gd
 go_wp2_with (first
  | (refine wpList_dict _ rfl _ _ _ (.inr rfl) _ 6 _ rfl DK.out (by decide) [97,108,108,111,116] (by decide) v rfl rfl (.with_ 1 332) GD.out ?_;intro w2 dk;replace DK:=h_ dk;clear dk))
 refine (vm_withG _ _ DK.out.size 1 333).mono ?_;rintro e w1 ⟨v,rfl,gd,kp⟩;replace DK:=h_ (DK.out.keeps kp);replace GD:=h_ gd;clear kp gd
 go_wp2_with (first
  | (refine wpList_dict _ rfl _ _ _ (.inr rfl) _ 7 _ rfl DK.out (by decide) [44] (by decide) v rfl rfl (.with_ 1 333) GD.out ?_;intro w2 dk;replace DK:=h_ dk;clear dk))
 refine (vm_withG _ _ DK.out.size 1 334).mono ?_;rintro e w1 ⟨v,rfl,gd,kp⟩;replace DK:=h_ (DK.out.keeps kp);replace GD:=h_ gd;clear kp gd
 go_wp2_with (first
  | (refine wpList_dict _ rfl _ _ _ (.inr rfl) _ 8 _ rfl DK.out (by decide) [99,44] (by decide) v rfl rfl (.with_ 1 334) GD.out ?_;intro w2 dk;replace DK:=h_ dk;clear dk)
  | (refine wpList_dict _ rfl _ _ _ (.inr rfl) _ 9 _ rfl DK.out (by decide) [97,108,105,103,110] (by decide) (fnV 335) rfl rfl (.plain 335) rfl ?_;intro w2 dk;replace DK:=h_ dk;clear dk))
 refine (vm_withG _ _ DK.out.size 1 336).mono ?_;rintro e w1 ⟨v,rfl,gd,kp⟩;replace DK:=h_ (DK.out.keeps kp);replace GD:=h_ gd;clear kp gd
 go_wp2_with (first
  | (refine wpList_dict _ rfl _ _ _ (.inr rfl) _ 10 _ rfl DK.out (by decide) [97,108,108,111,99,97,116,101] (by decide) v rfl rfl (.with_ 1 336) GD.out ?_;intro w2 dk;replace DK:=h_ dk;clear dk))
 refine (vm_withG _ _ DK.out.size 1 338).mono ?_;rintro e w1 ⟨v,rfl,gd,kp⟩;replace DK:=h_ (DK.out.keeps kp);replace GD:=h_ gd;clear kp gd
 go_wp2_with (first
  | (refine wpList_dict _ rfl _ _ _ (.inr rfl) _ 11 _ rfl DK.out (by decide) [102,114,101,101] (by decide) v rfl rfl (.with_ 1 338) GD.out ?_;intro w2 dk;replace DK:=h_ dk;clear dk))
 refine (vm_withG _ _ DK.out.size 2 340).mono ?_;rintro e w1 ⟨v,rfl,gd,kp⟩;replace DK:=h_ (DK.out.keeps kp);replace GD:=h_ gd;clear kp gd
 go_wp2_with (first
  | (refine wpList_dict _ rfl _ _ _ (.inr rfl) _ 12 _ rfl DK.out (by decide) [114,101,115,105,122,101] (by decide) v rfl rfl (.with_ 2 340) GD.out ?_;intro w2 dk;replace DK:=h_ dk;clear dk))
 go_ret
 exact ⟨_,rfl,DK.out⟩
def K_flows:List UInt8→Option Pk:=kput (kput (kput (kput (kput (kput (kput (kput (kput (kput (kput (kput (fun _=>none) [101,120,105,116] (.plain 295)) [108,105,116] (.push 297)) [98,114,97,110,99,104] (.plain 298)) [48,98,114,97,110,99,104] (.with_ 1 300)) [40,100,111,41] (.with_ 2 301)) [40,108,111,111,112,41] (.plain 302)) [40,43,108,111,111,112,41] (.with_ 1 304)) [105] (.push 305)) [106] (.push 306)) [117,110,108,111,111,112] (.plain 307)) [101,120,101,99,117,116,101] (.with_ 1 309)) [98,121,101] (.plain 311)
theorem vm_flows (w:World):Calls Tryz.prog 199 #[] w (DictPost w 12 K_flows):=by
 have hmm:=@run_makeMap Tryz.prog;have DK:=h_ (Dict.made w)
 go_enter Tryz.func199,Tryz.ntmps199
 go_wp2_with (first
  | (refine wpList_dict _ rfl _ _ _ (.inr rfl) _ 0 _ rfl DK.out (by decide) [101,120,105,116] (by decide) (fnV 295) rfl rfl (.plain 295) rfl ?_;intro w2 dk;replace DK:=h_ dk;clear dk))
 refine (vm_push _ _ DK.out.size 297).mono ?_;rintro e w1 ⟨v,rfl,gd,kp⟩;replace DK:=h_ (DK.out.keeps kp);replace GD:=h_ gd;clear kp gd
 go_wp2_with (first
  | (refine wpList_dict _ rfl _ _ _ (.inr rfl) _ 1 _ rfl DK.out (by decide) [108,105,116] (by decide) v rfl rfl (.push 297) GD.out ?_;intro w2 dk;replace DK:=h_ dk;clear dk)
  | (refine wpList_dict _ rfl _ _ _ (.inr rfl) _ 2 _ rfl DK.out (by decide) [98,114,97,110,99,104] (by decide) (fnV 298) rfl rfl (.plain 298) rfl ?_;intro w2 dk;replace DK:=h_ dk;clear dk))
 refine (vm_withG _ _ DK.out.size 1 300).mono ?_;rintro e w1 ⟨v,rfl,gd,kp⟩;replace DK:=h_ (DK.out.keeps kp);replace GD:=h_ gd;clear kp gd
 go_wp2_with (first
  | (refine wpList_dict _ rfl _ _ _ (.inr rfl) _ 3 _ rfl DK.out (by decide) [48,98,114,97,110,99,104] (by decide) v rfl rfl (.with_ 1 300) GD.out ?_;intro w2 dk;replace DK:=h_ dk;clear dk))
 refine (vm_withG _ _ DK.out.size 2 301).mono ?_;rintro e w1 ⟨v,rfl,gd,kp⟩;replace DK:=h_ (DK.out.keeps kp);replace GD:=h_ gd;clear kp gd
 go_wp2_with (first
  | (refine wpList_dict _ rfl _ _ _ (.inr rfl) _ 4 _ rfl DK.out (by decide) [40,100,111,41] (by decide) v rfl rfl (.with_ 2 301) GD.out ?_;intro w2 dk;replace DK:=h_ dk;clear dk)
  | (refine wpList_dict _ rfl _ _ _ (.inr rfl) _ 5 _ rfl DK.out (by decide) [40,108,111,111,112,41] (by decide) (fnV 302) rfl rfl (.plain 302) rfl ?_;intro w2 dk;replace DK:=h_ dk;clear dk))
 refine (vm_withG _ _ DK.out.size 1 304).mono ?_;rintro e w1 ⟨v,rfl,gd,kp⟩;replace DK:=h_ (DK.out.keeps kp);replace GD:=h_ gd;clear kp gd
 go_wp2_with (first
  | (refine wpList_dict _ rfl _ _ _ (.inr rfl) _ 6 _ rfl DK.out (by decide) [40,43,108,111,111,112,41] (by decide) v rfl rfl (.with_ 1 304) GD.out ?_;intro w2 dk;replace DK:=h_ dk;clear dk))
 refine (vm_push _ _ DK.out.size 305).mono ?_;rintro e w1 ⟨v,rfl,gd,kp⟩;replace DK:=h_ (DK.out.keeps kp);replace GD:=h_ gd;clear kp gd
 go_wp2_with (first
  | (refine wpList_dict _ rfl _ _ _ (.inr rfl) _ 7 _ rfl DK.out (by decide) [105] (by decide) v rfl rfl (.push 305) GD.out ?_;intro w2 dk;replace DK:=h_ dk;clear dk))
 refine (vm_push _ _ DK.out.size 306).mono ?_;rintro e w1 ⟨v,rfl,gd,kp⟩;replace DK:=h_ (DK.out.keeps kp);replace GD:=h_ gd;clear kp gd
 go_wp2_with (first
  | (refine wpList_dict _ rfl _ _ _ (.inr rfl) _ 8 _ rfl DK.out (by decide) [106] (by decide) v rfl rfl (.push 306) GD.out ?_;intro w2 dk;replace DK:=h_ dk;clear dk)
  | (refine wpList_dict _ rfl _ _ _ (.inr rfl) _ 9 _ rfl DK.out (by decide) [117,110,108,111,111,112] (by decide) (fnV 307) rfl rfl (.plain 307) rfl ?_;intro w2 dk;replace DK:=h_ dk;clear dk))
 refine (vm_withG _ _ DK.out.size 1 309).mono ?_;rintro e w1 ⟨v,rfl,gd,kp⟩;replace DK:=h_ (DK.out.keeps kp);replace GD:=h_ gd;clear kp gd
 go_wp2_with (first
  | (refine wpList_dict _ rfl _ _ _ (.inr rfl) _ 10 _ rfl DK.out (by decide) [101,120,101,99,117,116,101] (by decide) v rfl rfl (.with_ 1 309) GD.out ?_;intro w2 dk;replace DK:=h_ dk;clear dk)
  | (refine wpList_dict _ rfl _ _ _ (.inr rfl) _ 11 _ rfl DK.out (by decide) [98,121,101] (by decide) (fnV 311) rfl rfl (.plain 311) rfl ?_;intro w2 dk;replace DK:=h_ dk;clear dk))
 go_ret
 exact ⟨_,rfl,DK.out⟩
def K_moving:List UInt8→Option Pk:=kput (kput (kput (kput (kput (kput (kput (kput (kput (kput (kput (kput (kput (fun _=>none) [100,117,112] (.moves 1 [0,0])) [100,114,111,112] (.moves 1 [])) [115,119,97,112] (.moves 2 [1,0])) [111,118,101,114] (.moves 2 [0,1,0])) [114,111,116] (.moves 3 [1,2,0])) [110,105,112] (.moves 2 [1])) [116,117,99,107] (.moves 2 [1,0,1])) [63,100,117,112] (.with_ 1 313)) [112,105,99,107] (.with_ 1 314)) [100,101,112,116,104] (.push 315)) [62,114] (.with_ 1 316)) [114,62] (.push 317)) [114,64] (.push 318)
theorem vm_moving (w:World):Calls Tryz.prog 200 #[] w (DictPost w 13 K_moving):=by
 have hmm:=@run_makeMap Tryz.prog;have DK:=h_ (Dict.made w)
 go_enter Tryz.func200,Tryz.ntmps200
 go_wp2_with fail;refine (vm_moves _ _ (DK.out.keeps (Keeps.alloc _ _ _)).size 1 _ 2 _ [0,0] rfl (own_new _ _ _ 2 _ rfl (by first | rfl | simp) (by decide)) (fun g e=>by cases e;first | exact DK.out.size | exact Nat.le_succ _)).mono ?_
 rintro e w1 ⟨v,rfl,gd,kp⟩;replace DK:=h_ ((DK.out.keeps (Keeps.alloc _ _ _)).keeps kp);replace GD:=h_ gd;clear kp gd
 go_wp2_with (first
  | (refine wpList_dict _ rfl _ _ _ (.inr rfl) _ 0 _ rfl DK.out (by decide) [100,117,112] (by decide) v rfl rfl (.moves 1 [0,0]) GD.out ?_;intro w2 dk;replace DK:=h_ dk;clear dk))
 refine (vm_moves _ _ DK.out.size 1 none 0 0 [] rfl (Own.nil _ _ _) (fun g e=>by cases e)).mono ?_
 rintro e w1 ⟨v,rfl,gd,kp⟩;replace DK:=h_ (DK.out.keeps kp);replace GD:=h_ gd;clear kp gd
 go_wp2_with (first
  | (refine wpList_dict _ rfl _ _ _ (.inr rfl) _ 1 _ rfl DK.out (by decide) [100,114,111,112] (by decide) v rfl rfl (.moves 1 []) GD.out ?_;intro w2 dk;replace DK:=h_ dk;clear dk))
 refine (vm_moves _ _ (DK.out.keeps (Keeps.alloc _ _ _)).size 2 _ 2 _ [1,0] rfl (own_new _ _ _ 2 _ rfl (by first | rfl | simp) (by decide)) (fun g e=>by cases e;first | exact DK.out.size | exact Nat.le_succ _)).mono ?_
 rintro e w1 ⟨v,rfl,gd,kp⟩;replace DK:=h_ ((DK.out.keeps (Keeps.alloc _ _ _)).keeps kp);replace GD:=h_ gd;clear kp gd
 go_wp2_with (first
  | (refine wpList_dict _ rfl _ _ _ (.inr rfl) _ 2 _ rfl DK.out (by decide) [115,119,97,112] (by decide) v rfl rfl (.moves 2 [1,0]) GD.out ?_;intro w2 dk;replace DK:=h_ dk;clear dk))
 refine (vm_moves _ _ (DK.out.keeps (Keeps.alloc _ _ _)).size 2 _ 3 _ [0,1,0] rfl (own_new _ _ _ 3 _ rfl (by first | rfl | simp) (by decide)) (fun g e=>by cases e;first | exact DK.out.size | exact Nat.le_succ _)).mono ?_
 rintro e w1 ⟨v,rfl,gd,kp⟩;replace DK:=h_ ((DK.out.keeps (Keeps.alloc _ _ _)).keeps kp);replace GD:=h_ gd;clear kp gd
 go_wp2_with (first
  | (refine wpList_dict _ rfl _ _ _ (.inr rfl) _ 3 _ rfl DK.out (by decide) [111,118,101,114] (by decide) v rfl rfl (.moves 2 [0,1,0]) GD.out ?_;intro w2 dk;replace DK:=h_ dk;clear dk))
 refine (vm_moves _ _ (DK.out.keeps (Keeps.alloc _ _ _)).size 3 _ 3 _ [1,2,0] rfl (own_new _ _ _ 3 _ rfl (by first | rfl | simp) (by decide)) (fun g e=>by cases e;first | exact DK.out.size | exact Nat.le_succ _)).mono ?_
 rintro e w1 ⟨v,rfl,gd,kp⟩;replace DK:=h_ ((DK.out.keeps (Keeps.alloc _ _ _)).keeps kp);replace GD:=h_ gd;clear kp gd
 go_wp2_with (first
  | (refine wpList_dict _ rfl _ _ _ (.inr rfl) _ 4 _ rfl DK.out (by decide) [114,111,116] (by decide) v rfl rfl (.moves 3 [1,2,0]) GD.out ?_;intro w2 dk;replace DK:=h_ dk;clear dk))
 refine (vm_moves _ _ (DK.out.keeps (Keeps.alloc _ _ _)).size 2 _ 1 _ [1] rfl (own_new _ _ _ 1 _ rfl (by first | rfl | simp) (by decide)) (fun g e=>by cases e;first | exact DK.out.size | exact Nat.le_succ _)).mono ?_
 rintro e w1 ⟨v,rfl,gd,kp⟩;replace DK:=h_ ((DK.out.keeps (Keeps.alloc _ _ _)).keeps kp);replace GD:=h_ gd;clear kp gd
 go_wp2_with (first
  | (refine wpList_dict _ rfl _ _ _ (.inr rfl) _ 5 _ rfl DK.out (by decide) [110,105,112] (by decide) v rfl rfl (.moves 2 [1]) GD.out ?_;intro w2 dk;replace DK:=h_ dk;clear dk))
 refine (vm_moves _ _ (DK.out.keeps (Keeps.alloc _ _ _)).size 2 _ 3 _ [1,0,1] rfl (own_new _ _ _ 3 _ rfl (by first | rfl | simp) (by decide)) (fun g e=>by cases e;first | exact DK.out.size | exact Nat.le_succ _)).mono ?_
 rintro e w1 ⟨v,rfl,gd,kp⟩;replace DK:=h_ ((DK.out.keeps (Keeps.alloc _ _ _)).keeps kp);replace GD:=h_ gd;clear kp gd
 go_wp2_with (first
  | (refine wpList_dict _ rfl _ _ _ (.inr rfl) _ 6 _ rfl DK.out (by decide) [116,117,99,107] (by decide) v rfl rfl (.moves 2 [1,0,1]) GD.out ?_;intro w2 dk;replace DK:=h_ dk;clear dk))
 refine (vm_withG _ _ DK.out.size 1 313).mono ?_;rintro e w1 ⟨v,rfl,gd,kp⟩;replace DK:=h_ (DK.out.keeps kp);replace GD:=h_ gd;clear kp gd
 go_wp2_with (first
  | (refine wpList_dict _ rfl _ _ _ (.inr rfl) _ 7 _ rfl DK.out (by decide) [63,100,117,112] (by decide) v rfl rfl (.with_ 1 313) GD.out ?_;intro w2 dk;replace DK:=h_ dk;clear dk))
 refine (vm_withG _ _ DK.out.size 1 314).mono ?_;rintro e w1 ⟨v,rfl,gd,kp⟩;replace DK:=h_ (DK.out.keeps kp);replace GD:=h_ gd;clear kp gd
 go_wp2_with (first
  | (refine wpList_dict _ rfl _ _ _ (.inr rfl) _ 8 _ rfl DK.out (by decide) [112,105,99,107] (by decide) v rfl rfl (.with_ 1 314) GD.out ?_;intro w2 dk;replace DK:=h_ dk;clear dk))
 refine (vm_push _ _ DK.out.size 315).mono ?_;rintro e w1 ⟨v,rfl,gd,kp⟩;replace DK:=h_ (DK.out.keeps kp);replace GD:=h_ gd;clear kp gd
 go_wp2_with (first
  | (refine wpList_dict _ rfl _ _ _ (.inr rfl) _ 9 _ rfl DK.out (by decide) [100,101,112,116,104] (by decide) v rfl rfl (.push 315) GD.out ?_;intro w2 dk;replace DK:=h_ dk;clear dk))
 refine (vm_withG _ _ DK.out.size 1 316).mono ?_;rintro e w1 ⟨v,rfl,gd,kp⟩;replace DK:=h_ (DK.out.keeps kp);replace GD:=h_ gd;clear kp gd
 go_wp2_with (first
  | (refine wpList_dict _ rfl _ _ _ (.inr rfl) _ 10 _ rfl DK.out (by decide) [62,114] (by decide) v rfl rfl (.with_ 1 316) GD.out ?_;intro w2 dk;replace DK:=h_ dk;clear dk))
 refine (vm_push _ _ DK.out.size 317).mono ?_;rintro e w1 ⟨v,rfl,gd,kp⟩;replace DK:=h_ (DK.out.keeps kp);replace GD:=h_ gd;clear kp gd
 go_wp2_with (first
  | (refine wpList_dict _ rfl _ _ _ (.inr rfl) _ 11 _ rfl DK.out (by decide) [114,62] (by decide) v rfl rfl (.push 317) GD.out ?_;intro w2 dk;replace DK:=h_ dk;clear dk))
 refine (vm_push _ _ DK.out.size 318).mono ?_;rintro e w1 ⟨v,rfl,gd,kp⟩;replace DK:=h_ (DK.out.keeps kp);replace GD:=h_ gd;clear kp gd
 go_wp2_with (first
  | (refine wpList_dict _ rfl _ _ _ (.inr rfl) _ 12 _ rfl DK.out (by decide) [114,64] (by decide) v rfl rfl (.push 318) GD.out ?_;intro w2 dk;replace DK:=h_ dk;clear dk))
 go_ret
 exact ⟨_,rfl,DK.out⟩
inductive Wk where
 | plain (f:Nat)
 | only (f:Nat)
 deriving DecidableEq
def GoodW (X:Nat→Prop) (w:World):Wk→Value→Prop
 | .plain f,v=>v=fnV f
 | .only f,v=>∃ a,v=.func (.func 372) #[] #[a]∧Box X w a (fnV f)
theorem GoodW.keeps {X:Nat→Prop} {w w':World} {kd:Wk} {v:Value} (h:GoodW X w kd v) (k:KeepX X w w'):GoodW X w' kd v:=by
 cases kd with
 | plain f=>exact h
 | only f =>
  obtain ⟨a,rfl,h1⟩:=h;exact ⟨a,rfl,h1.keeps k⟩
def GoodsW (X:Nat→Prop) (w:World) (K:List UInt8→Option Wk) (f:List UInt8→Option Value):Prop:=∀ s,match K s with
 | none=>f s=none
 | some kd=>∃ v,f s=some v∧GoodW X w kd v
theorem GoodsW.keeps {X:Nat→Prop} {w w':World} {K:List UInt8→Option Wk} {f:List UInt8→Option Value} (h:GoodsW X w K f) (k:KeepX X w w'):GoodsW X w' K f:=by
 intro s;have hs:=h s
 cases hk:K s with
 | none=>simp only [hk] at hs ⊢;exact hs
 | some kd =>
  simp only [hk] at hs ⊢
  obtain ⟨v,h1,h2⟩:=hs;exact ⟨v,h1,h2.keeps k⟩
def wput (K:List UInt8→Option Wk) (x:List UInt8) (kd:Wk):List UInt8→Option Wk:=fun y=>if y=x then some kd else K y
theorem GoodsW.put {X:Nat→Prop} {w:World} {K:List UInt8→Option Wk} {f:List UInt8→Option Value} (h:GoodsW X w K f) (x:List UInt8) {kd:Wk} {v:Value} (g:GoodW X w kd v):GoodsW X w (wput K x kd) (upd f x v):=by
 intro s;unfold wput upd;by_cases e:s=x
 · rw [if_pos e,if_pos e];exact ⟨v,rfl,g⟩
 · rw [if_neg e,if_neg e];exact h s
def DictW (w0 w:World) (b n:Nat) (K:List UInt8→Option Wk):Prop :=
 ∃ f,MapIs sk w b n f∧GoodsW (fun g=>w0.heap.size≤g) w K f∧w0.heap.size≤b∧Keeps (fun _=>False) w0 w
theorem DictW.made (w:World):DictW w (w.alloc (.map #[] 0)) w.heap.size 0 (fun _=>none):=⟨_,MapIs.made sk w,fun _=>rfl,Nat.le_refl _,Keeps.alloc _ _ _⟩
theorem DictW.keeps {w0 w w':World} {b n:Nat} {K:List UInt8→Option Wk} (h:DictW w0 w b n K) (k:Keeps (fun _=>False) w w'):DictW w0 w' b n K:=by
 obtain ⟨f,h1,h2,h3,h4⟩:=h;exact ⟨f,h1.keeps k id,h2.keeps (KeepX.of0 k),h3,h4.trans k⟩
theorem DictW.size {w0 w:World} {b n:Nat} {K:List UInt8→Option Wk} (h:DictW w0 w b n K):w0.heap.size≤w.heap.size:=by
 obtain ⟨f,h1,h2,h3,h4⟩:=h;exact h4.size
theorem wpList_dictW {w0:World} (w:World) {ops:Array Oper} {rest:List Oper} {o:Oper} {a:Act} {Q:Exit→Act→World→Prop} (hg:o.guard=none) (m x v:Operand) (hop:o.op=Op.mapUpdate 57 m x v∨o.op=Op.insert 57 m x v) (b n:Nat) (K:List UInt8→Option Wk)
 (hm:a.eval m=.map (some b)) (hown:DictW w0 w b n K) (hn:n<1000) (s:List UInt8) (hs:s.length≤1000) (val:Value) (hx:a.eval x=.string ⟨s.toArray⟩) (hv:a.eval v=val) (kd:Wk) (gd:GoodW (fun g=>w0.heap.size≤g) w kd val)
 (hK:∀ w',DictW w0 w' b (n+1) (wput K s kd)→wpList Tryz.prog ops Q rest (a.put o.dst undef) w'):wpList Tryz.prog ops Q (o :: rest) a w:=by
 obtain ⟨f,h1,h2,h3,h4⟩:=hown;refine wpList_put sk w hg m x v 57 hop _ Tryz.underlying57 b n f hm h1 (by unfold maxLen;omega) s (Nat.le_trans hs (by unfold maxLen;omega)) val hx hv ?_
 intro w' h5 h6
 have hx:=KeepX.of (X:=fun g=>w0.heap.size≤g) h6 (fun g _ e=>by
  have e:g=b:=e
  rw [e];exact MapIs.noRow h1)
 exact hK w' ⟨_,h5,(h2.keeps hx).put s (gd.keeps hx),h3,h4.trans' h6 (fun i hi e=>by
  have e:i=b:=e
  omega)⟩
theorem outer_only (w:World) (B:Nat) (hB:B≤w.heap.size) (fn:Nat):Calls Tryz.prog 220 #[.func (.func fn) #[] #[]] w fun e w'=>∃ v,e=.returned v∧GoodW (fun g=>B≤g) w' (.only fn) v∧Keeps (fun _=>False) w w':=by
 have hmf:=hmf;have HB:=h_ hB;clear hB
 go_enter Tryz.func220,Tryz.ntmps220
 go_wp2_with fail;go_ret
 exact ⟨_,rfl,⟨_,rfl,⟨w.heap.size,_,rfl,HB.out,halloc_at w _⟩⟩,Keeps.alloc _ _ _⟩
def K_words:List UInt8→Option Wk:=wput (wput (wput (wput (wput (wput (wput (wput (wput (wput (wput (wput (wput (wput (wput (wput (wput (wput (wput (wput (wput (wput (wput (wput (wput (fun _=>none) [58] (.plain 217)) [59] (.plain 218)) [105,109,109,101,100,105,97,116,101] (.plain 219)) [114,101,99,117,114,115,101] (.only 221)) [101,120,105,116] (.only 222)) [118,97,114,105,97,98,108,101] (.plain 223)) [99,114,101,97,116,101] (.plain 225)) [99,111,110,115,116,97,110,116] (.plain 226)) [105,102] (.only 227)) [101,108,115,101] (.only 229)) [116,104,101,110] (.only 230)) [98,101,103,105,110] (.only 232)) [97,103,97,105,110] (.only 234)) [117,110,116,105,108] (.only 236)) [119,104,105,108,101] (.only 237)) [114,101,112,101,97,116] (.only 238)) [100,111] (.only 239)) [108,111,111,112] (.only 240)) [43,108,111,111,112] (.only 241)) [40] (.plain 242)) [92] (.plain 244)) [115,34] (.plain 245)) [46,34] (.plain 246)) [99,104,97,114] (.plain 247)) [39] (.plain 248)
def WordsPost (w:World) (e:Ending) (w':World):Prop:=∃ b,e=.returned (.map (some b))∧DictW w w' b 25 K_words
theorem outer_words (w:World):Calls Tryz.prog 142 #[] w (WordsPost w):=by
 have hmm:=@run_makeMap Tryz.prog;have DK:=h_ (DictW.made w)
 go_enter Tryz.func142,Tryz.ntmps142
 go_wp2_with (first
  | (refine wpList_dictW _ rfl _ _ _ (.inr rfl) _ 0 _ rfl DK.out (by decide) [58] (by decide) (fnV 217) rfl rfl (.plain 217) rfl ?_;intro w2 dk;replace DK:=h_ dk;clear dk)
  | (refine wpList_dictW _ rfl _ _ _ (.inr rfl) _ 1 _ rfl DK.out (by decide) [59] (by decide) (fnV 218) rfl rfl (.plain 218) rfl ?_;intro w2 dk;replace DK:=h_ dk;clear dk)
  | (refine wpList_dictW _ rfl _ _ _ (.inr rfl) _ 2 _ rfl DK.out (by decide) [105,109,109,101,100,105,97,116,101] (by decide) (fnV 219) rfl rfl (.plain 219) rfl ?_;intro w2 dk;replace DK:=h_ dk;clear dk))
 refine (outer_only _ _ DK.out.size 221).mono ?_;rintro e w1 ⟨v,rfl,gd,kp⟩;replace DK:=h_ (DK.out.keeps kp);replace GD:=h_ gd;clear kp gd
 go_wp2_with (first
  | (refine wpList_dictW _ rfl _ _ _ (.inr rfl) _ 3 _ rfl DK.out (by decide) [114,101,99,117,114,115,101] (by decide) v rfl rfl (.only 221) GD.out ?_;intro w2 dk;replace DK:=h_ dk;clear dk))
 refine (outer_only _ _ DK.out.size 222).mono ?_;rintro e w1 ⟨v,rfl,gd,kp⟩;replace DK:=h_ (DK.out.keeps kp);replace GD:=h_ gd;clear kp gd
 go_wp2_with (first
  | (refine wpList_dictW _ rfl _ _ _ (.inr rfl) _ 4 _ rfl DK.out (by decide) [101,120,105,116] (by decide) v rfl rfl (.only 222) GD.out ?_;intro w2 dk;replace DK:=h_ dk;clear dk)
  | (refine wpList_dictW _ rfl _ _ _ (.inr rfl) _ 5 _ rfl DK.out (by decide) [118,97,114,105,97,98,108,101] (by decide) (fnV 223) rfl rfl (.plain 223) rfl ?_;intro w2 dk;replace DK:=h_ dk;clear dk)
  | (refine wpList_dictW _ rfl _ _ _ (.inr rfl) _ 6 _ rfl DK.out (by decide) [99,114,101,97,116,101] (by decide) (fnV 225) rfl rfl (.plain 225) rfl ?_;intro w2 dk;replace DK:=h_ dk;clear dk)
  | (refine wpList_dictW _ rfl _ _ _ (.inr rfl) _ 7 _ rfl DK.out (by decide) [99,111,110,115,116,97,110,116] (by decide) (fnV 226) rfl rfl (.plain 226) rfl ?_;intro w2 dk;replace DK:=h_ dk;clear dk))
 refine (outer_only _ _ DK.out.size 227).mono ?_;rintro e w1 ⟨v,rfl,gd,kp⟩;replace DK:=h_ (DK.out.keeps kp);replace GD:=h_ gd;clear kp gd
 go_wp2_with (first
  | (refine wpList_dictW _ rfl _ _ _ (.inr rfl) _ 8 _ rfl DK.out (by decide) [105,102] (by decide) v rfl rfl (.only 227) GD.out ?_;intro w2 dk;replace DK:=h_ dk;clear dk))
 refine (outer_only _ _ DK.out.size 229).mono ?_;rintro e w1 ⟨v,rfl,gd,kp⟩;replace DK:=h_ (DK.out.keeps kp);replace GD:=h_ gd;clear kp gd
 go_wp2_with (first
  | (refine wpList_dictW _ rfl _ _ _ (.inr rfl) _ 9 _ rfl DK.out (by decide) [101,108,115,101] (by decide) v rfl rfl (.only 229) GD.out ?_;intro w2 dk;replace DK:=h_ dk;clear dk))
 refine (outer_only _ _ DK.out.size 230).mono ?_;rintro e w1 ⟨v,rfl,gd,kp⟩;replace DK:=h_ (DK.out.keeps kp);replace GD:=h_ gd;clear kp gd
 go_wp2_with (first
  | (refine wpList_dictW _ rfl _ _ _ (.inr rfl) _ 10 _ rfl DK.out (by decide) [116,104,101,110] (by decide) v rfl rfl (.only 230) GD.out ?_;intro w2 dk;replace DK:=h_ dk;clear dk))
 refine (outer_only _ _ DK.out.size 232).mono ?_;rintro e w1 ⟨v,rfl,gd,kp⟩;replace DK:=h_ (DK.out.keeps kp);replace GD:=h_ gd;clear kp gd
 go_wp2_with (first
  | (refine wpList_dictW _ rfl _ _ _ (.inr rfl) _ 11 _ rfl DK.out (by decide) [98,101,103,105,110] (by decide) v rfl rfl (.only 232) GD.out ?_;intro w2 dk;replace DK:=h_ dk;clear dk))
 refine (outer_only _ _ DK.out.size 234).mono ?_;rintro e w1 ⟨v,rfl,gd,kp⟩;replace DK:=h_ (DK.out.keeps kp);replace GD:=h_ gd;clear kp gd
 go_wp2_with (first
  | (refine wpList_dictW _ rfl _ _ _ (.inr rfl) _ 12 _ rfl DK.out (by decide) [97,103,97,105,110] (by decide) v rfl rfl (.only 234) GD.out ?_;intro w2 dk;replace DK:=h_ dk;clear dk))
 refine (outer_only _ _ DK.out.size 236).mono ?_;rintro e w1 ⟨v,rfl,gd,kp⟩;replace DK:=h_ (DK.out.keeps kp);replace GD:=h_ gd;clear kp gd
 go_wp2_with (first
  | (refine wpList_dictW _ rfl _ _ _ (.inr rfl) _ 13 _ rfl DK.out (by decide) [117,110,116,105,108] (by decide) v rfl rfl (.only 236) GD.out ?_;intro w2 dk;replace DK:=h_ dk;clear dk))
 refine (outer_only _ _ DK.out.size 237).mono ?_;rintro e w1 ⟨v,rfl,gd,kp⟩;replace DK:=h_ (DK.out.keeps kp);replace GD:=h_ gd;clear kp gd
 go_wp2_with (first
  | (refine wpList_dictW _ rfl _ _ _ (.inr rfl) _ 14 _ rfl DK.out (by decide) [119,104,105,108,101] (by decide) v rfl rfl (.only 237) GD.out ?_;intro w2 dk;replace DK:=h_ dk;clear dk))
 refine (outer_only _ _ DK.out.size 238).mono ?_;rintro e w1 ⟨v,rfl,gd,kp⟩;replace DK:=h_ (DK.out.keeps kp);replace GD:=h_ gd;clear kp gd
 go_wp2_with (first
  | (refine wpList_dictW _ rfl _ _ _ (.inr rfl) _ 15 _ rfl DK.out (by decide) [114,101,112,101,97,116] (by decide) v rfl rfl (.only 238) GD.out ?_;intro w2 dk;replace DK:=h_ dk;clear dk))
 refine (outer_only _ _ DK.out.size 239).mono ?_;rintro e w1 ⟨v,rfl,gd,kp⟩;replace DK:=h_ (DK.out.keeps kp);replace GD:=h_ gd;clear kp gd
 go_wp2_with (first
  | (refine wpList_dictW _ rfl _ _ _ (.inr rfl) _ 16 _ rfl DK.out (by decide) [100,111] (by decide) v rfl rfl (.only 239) GD.out ?_;intro w2 dk;replace DK:=h_ dk;clear dk))
 refine (outer_only _ _ DK.out.size 240).mono ?_;rintro e w1 ⟨v,rfl,gd,kp⟩;replace DK:=h_ (DK.out.keeps kp);replace GD:=h_ gd;clear kp gd
 go_wp2_with (first
  | (refine wpList_dictW _ rfl _ _ _ (.inr rfl) _ 17 _ rfl DK.out (by decide) [108,111,111,112] (by decide) v rfl rfl (.only 240) GD.out ?_;intro w2 dk;replace DK:=h_ dk;clear dk))
 refine (outer_only _ _ DK.out.size 241).mono ?_;rintro e w1 ⟨v,rfl,gd,kp⟩;replace DK:=h_ (DK.out.keeps kp);replace GD:=h_ gd;clear kp gd
 go_wp2_with (first
  | (refine wpList_dictW _ rfl _ _ _ (.inr rfl) _ 18 _ rfl DK.out (by decide) [43,108,111,111,112] (by decide) v rfl rfl (.only 241) GD.out ?_;intro w2 dk;replace DK:=h_ dk;clear dk)
  | (refine wpList_dictW _ rfl _ _ _ (.inr rfl) _ 19 _ rfl DK.out (by decide) [40] (by decide) (fnV 242) rfl rfl (.plain 242) rfl ?_;intro w2 dk;replace DK:=h_ dk;clear dk)
  | (refine wpList_dictW _ rfl _ _ _ (.inr rfl) _ 20 _ rfl DK.out (by decide) [92] (by decide) (fnV 244) rfl rfl (.plain 244) rfl ?_;intro w2 dk;replace DK:=h_ dk;clear dk)
  | (refine wpList_dictW _ rfl _ _ _ (.inr rfl) _ 21 _ rfl DK.out (by decide) [115,34] (by decide) (fnV 245) rfl rfl (.plain 245) rfl ?_;intro w2 dk;replace DK:=h_ dk;clear dk)
  | (refine wpList_dictW _ rfl _ _ _ (.inr rfl) _ 22 _ rfl DK.out (by decide) [46,34] (by decide) (fnV 246) rfl rfl (.plain 246) rfl ?_;intro w2 dk;replace DK:=h_ dk;clear dk)
  | (refine wpList_dictW _ rfl _ _ _ (.inr rfl) _ 23 _ rfl DK.out (by decide) [99,104,97,114] (by decide) (fnV 247) rfl rfl (.plain 247) rfl ?_;intro w2 dk;replace DK:=h_ dk;clear dk)
  | (refine wpList_dictW _ rfl _ _ _ (.inr rfl) _ 24 _ rfl DK.out (by decide) [39] (by decide) (fnV 248) rfl rfl (.plain 248) rfl ?_;intro w2 dk;replace DK:=h_ dk;clear dk))
 go_ret
 exact ⟨_,rfl,DK.out⟩
end Go.Proofs.Shed
