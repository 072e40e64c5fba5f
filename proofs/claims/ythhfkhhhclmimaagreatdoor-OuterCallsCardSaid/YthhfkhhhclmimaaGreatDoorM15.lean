/- Of CallsG: WPrims, WDoes, FvS, FvP, WArithB, WArithC, FvQ. No condition. -/
import Derived.Test.YthhfkhhhclmimaaGreatDoorM14
set_option linter.unusedVariables false
set_option linter.unusedSimpArgs false
set_option maxRecDepth 10000
set_option maxHeartbeats 4000000
namespace Go.Proofs.Shed
open Go Go.RowKit Go.Proofs.K
def K_all:List UInt8→Option Pk:=kover K_objects (kover K_catching (kover K_telling (kover K_storing (kover K_reckoning (kover K_moving (kover K_flows (fun _=>none)))))))
def Srcs (w0 w:World) (b0:Nat) (l:List (Nat × Nat × (List UInt8→Option Pk))):Prop:=∀ p ∈ l,Dict w0 w p.1 p.2.1 p.2.2∧p.1≠b0
theorem Srcs.nil (w0 w:World) (b0:Nat):Srcs w0 w b0 []:=fun p h=>by cases h
theorem Srcs.keeps {w0 w w':World} {b0 n0:Nat} {K0:List UInt8→Option Pk} {l:List (Nat × Nat × (List UInt8→Option Pk))} (h:Srcs w0 w b0 l) (d:Dict w0 w b0 n0 K0) (k:Keeps (fun g=>g=b0) w w'):Srcs w0 w' b0 l:=fun p hp=>⟨(h p hp).1.keepsB k (h p hp).2 d.noRow d.ge,(h p hp).2⟩
theorem Srcs.cons {w0 w w':World} {b0 n0 b n:Nat} {K0 K:List UInt8→Option Pk} {l:List (Nat × Nat × (List UInt8→Option Pk))} (h:Srcs w0 w b0 l) (d:Dict w0 w b0 n0 K0) (k0:Keeps (fun _=>False) w0 w) (x:Dict w w' b n K) (kk:Keeps (fun _=>False) w w'):Srcs w0 w' b0 ((b,n,K) :: l):=by
 intro p hp
 rcases List.mem_cons.1 hp with rfl | hp
 · refine ⟨x.rebase k0,fun e=>?_⟩
   have:=x.ge;obtain ⟨f,h1,_⟩:=d;have:=h1.lt;have e:b=b0:=e;omega
 · exact ⟨(h p hp).1.keeps kk,(h p hp).2⟩
theorem Dict.kp {w0 w:World} {b n:Nat} {K:List UInt8→Option Pk} (h:Dict w0 w b n K):Keeps (fun _=>False) w0 w:=by
 obtain ⟨f,h1,h2,h3,h4⟩:=h;exact h4
theorem vm_primitives (w:World):Calls Tryz.prog 120 #[] w (DictPost w 500 K_all):=by
 have hmm:=@run_makeMap Tryz.prog;have DK:=h_ (Dict.made w);have SS:=h_ (Srcs.nil w (w.alloc (.map #[] 0)) w.heap.size);have HF:=h_ vm_flows;have HM:=h_ vm_moving;have HR:=h_ vm_reckoning;have HS':=h_ vm_storing;have HT:=h_ vm_telling;have HC:=h_ vm_catching;have HO:=h_ vm_objects
 go_enter Tryz.func120,Tryz.ntmps120
 go_wp2_with fail;refine (HF.out _).mono ?_;rintro e w1 ⟨bf,rfl,d1⟩;replace SS:=h_ (SS.out.cons DK.out DK.out.kp d1 d1.kp);replace DK:=h_ (DK.out.keeps d1.kp);clear d1;go_wp2_with fail;refine (HM.out _).mono ?_;rintro e w1 ⟨bm,rfl,d1⟩;replace SS:=h_ (SS.out.cons DK.out DK.out.kp d1 d1.kp);replace DK:=h_ (DK.out.keeps d1.kp);clear d1;go_wp2_with fail;refine (HR.out _).mono ?_;rintro e w1 ⟨br,rfl,d1⟩;replace SS:=h_ (SS.out.cons DK.out DK.out.kp d1 d1.kp);replace DK:=h_ (DK.out.keeps d1.kp);clear d1;go_wp2_with fail;refine (HS'.out _).mono ?_;rintro e w1 ⟨bs,rfl,d1⟩;replace SS:=h_ (SS.out.cons DK.out DK.out.kp d1 d1.kp);replace DK:=h_ (DK.out.keeps d1.kp);clear d1;go_wp2_with fail;refine (HT.out _).mono ?_;rintro e w1 ⟨bt,rfl,d1⟩;replace SS:=h_ (SS.out.cons DK.out DK.out.kp d1 d1.kp);replace DK:=h_ (DK.out.keeps d1.kp);clear d1;go_wp2_with fail;refine (HC.out _).mono ?_;rintro e w1 ⟨bc,rfl,d1⟩;replace SS:=h_ (SS.out.cons DK.out DK.out.kp d1 d1.kp);replace DK:=h_ (DK.out.keeps d1.kp);clear d1;go_wp2_with fail;refine (HO.out _).mono ?_;rintro e w1 ⟨bo,rfl,d1⟩;replace SS:=h_ (SS.out.cons DK.out DK.out.kp d1 d1.kp);replace DK:=h_ (DK.out.keeps d1.kp);clear d1;go_wp2_with fail;have HS:=h_ (halloc_at w1 (.cells #[.map (some bf),.map (some bm),.map (some br),.map (some bs),.map (some bt),.map (some bc),.map (some bo)] 235));have NB:=h_ (show ¬ w1.heap.size=w.heap.size by obtain ⟨f,h1,_⟩:=DK.out;have:=h1.lt;omega)
 replace DK:=h_ (DK.out.keeps (ka_ w1 (.cells #[.map (some bf),.map (some bm),.map (some br),.map (some bs),.map (some bt),.map (some bc),.map (some bo)] 235)));replace SS:=h_ (show Srcs _ _ _ _ from fun p hp=>⟨(SS.out p hp).1.keeps (ka_ w1 (.cells #[.map (some bf),.map (some bm),.map (some br),.map (some bs),.map (some bt),.map (some bc),.map (some bo)] 235)),(SS.out p hp).2⟩)
 generalize hg:w1.heap.size=g at HS NB ⊢;generalize w1.alloc (.cells #[.map (some bf),.map (some bm),.map (some br),.map (some bs),.map (some bt),.map (some bc),.map (some bo)] 235)=w2 at HS DK SS ⊢;clear hg;refine wp_loop_rounds 8 ?_;rw [rounds_succ];have HC0:=cell_of (i:=0) HS.out rfl;go_wp2_with fail;clear HC0;refine (copy_dict w _ _ _ _ _ _ _ DK.out (SS.out (bf,12,K_flows) (by simp)).1 (fun e=>(SS.out (bf,12,K_flows) (by simp)).2 e.symm) (by dsimp only;decide)).mono ?_
 rintro e w1 ⟨rfl,d1,k1⟩;replace SS:=h_ (SS.out.keeps DK.out k1);replace HS:=h_ (k1.heap HS.out NB.out);replace DK:=h_ d1;clear d1 k1;go_wp2_with fail;rw [rounds_succ];have HC0:=cell_of (i:=1) HS.out rfl;go_wp2_with fail;clear HC0;refine (copy_dict w _ _ _ _ _ _ _ DK.out (SS.out (bm,13,K_moving) (by simp)).1 (fun e=>(SS.out (bm,13,K_moving) (by simp)).2 e.symm) (by dsimp only;decide)).mono ?_
 rintro e w1 ⟨rfl,d1,k1⟩;replace SS:=h_ (SS.out.keeps DK.out k1);replace HS:=h_ (k1.heap HS.out NB.out);replace DK:=h_ d1;clear d1 k1;go_wp2_with fail;rw [rounds_succ];have HC0:=cell_of (i:=2) HS.out rfl;go_wp2_with fail;clear HC0;refine (copy_dict w _ _ _ _ _ _ _ DK.out (SS.out (br,86,K_reckoning) (by simp)).1 (fun e=>(SS.out (br,86,K_reckoning) (by simp)).2 e.symm) (by dsimp only;decide)).mono ?_
 rintro e w1 ⟨rfl,d1,k1⟩;replace SS:=h_ (SS.out.keeps DK.out k1);replace HS:=h_ (k1.heap HS.out NB.out);replace DK:=h_ d1;clear d1 k1;go_wp2_with fail;rw [rounds_succ];have HC0:=cell_of (i:=3) HS.out rfl;go_wp2_with fail;clear HC0;refine (copy_dict w _ _ _ _ _ _ _ DK.out (SS.out (bs,13,K_storing) (by simp)).1 (fun e=>(SS.out (bs,13,K_storing) (by simp)).2 e.symm) (by dsimp only;decide)).mono ?_
 rintro e w1 ⟨rfl,d1,k1⟩;replace SS:=h_ (SS.out.keeps DK.out k1);replace HS:=h_ (k1.heap HS.out NB.out);replace DK:=h_ d1;clear d1 k1;go_wp2_with fail;rw [rounds_succ];have HC0:=cell_of (i:=4) HS.out rfl;go_wp2_with fail;clear HC0;refine (copy_dict w _ _ _ _ _ _ _ DK.out (SS.out (bt,7,K_telling) (by simp)).1 (fun e=>(SS.out (bt,7,K_telling) (by simp)).2 e.symm) (by dsimp only;decide)).mono ?_
 rintro e w1 ⟨rfl,d1,k1⟩;replace SS:=h_ (SS.out.keeps DK.out k1);replace HS:=h_ (k1.heap HS.out NB.out);replace DK:=h_ d1;clear d1 k1;go_wp2_with fail;rw [rounds_succ];have HC0:=cell_of (i:=5) HS.out rfl;go_wp2_with fail;clear HC0;refine (copy_dict w _ _ _ _ _ _ _ DK.out (SS.out (bc,4,K_catching) (by simp)).1 (fun e=>(SS.out (bc,4,K_catching) (by simp)).2 e.symm) (by dsimp only;decide)).mono ?_
 rintro e w1 ⟨rfl,d1,k1⟩;replace SS:=h_ (SS.out.keeps DK.out k1);replace HS:=h_ (k1.heap HS.out NB.out);replace DK:=h_ d1;clear d1 k1;go_wp2_with fail;rw [rounds_succ];have HC0:=cell_of (i:=6) HS.out rfl;go_wp2_with fail;clear HC0;refine (copy_dict w _ _ _ _ _ _ _ DK.out (SS.out (bo,7,K_objects) (by simp)).1 (fun e=>(SS.out (bo,7,K_objects) (by simp)).2 e.symm) (by dsimp only;decide)).mono ?_
 rintro e w1 ⟨rfl,d1,k1⟩;replace SS:=h_ (SS.out.keeps DK.out k1);replace HS:=h_ (k1.heap HS.out NB.out);replace DK:=h_ d1;clear d1 k1;go_wp2_with fail;rw [rounds_succ];go_wp2_with fail;go_ret
 exact ⟨_,rfl,DK.out.mono (by decide)⟩
end Go.Proofs.Shed
namespace Go.Proofs.Shed
open Go Go.RowKit Go.Proofs.K Go.Proofs.Cod Go.Proofs.Ari
theorem place_get (v:List UInt8) (l:List (List UInt8)) (h:v ∈ l):∃ h:place v l<l.length,l[place v l]=v:=by
 induction l with
 | nil=>cases h
 | cons x l ih =>
  by_cases e:v=x
  · have hp:place v (x :: l)=0:=by rw [place,if_pos e]
    exact ⟨by rw [hp];simp,by simp only [hp];simp [e]⟩
  · obtain ⟨h1,h2⟩:=ih (by rcases List.mem_cons.1 h with h | h;exact absurd h e;exact h)
    have hp:place v (x :: l)=place v l+1:=by rw [place,if_neg e]
    exact ⟨by rw [hp];simp;omega,by simp only [hp];simpa using h2⟩
theorem num_inj {s t:List UInt8} (hs:s ∈ names) (ht:t ∈ names) (h:num s=num t):s=t:=by
 obtain ⟨h1,e1⟩:=place_get s names hs;obtain ⟨h2,e2⟩:=place_get t names ht;unfold num idx at h;rw [if_pos h1,if_pos h2] at h;have:place s names=place t names:=by omega
 rw [← e1,← e2];congr 1
def Kin (K:List UInt8→Option Pk):Prop:=∀ s,K s≠none→s ∈ names
theorem Kin.none:Kin (fun _=>none):=fun _ h=>absurd rfl h
theorem Kin.put {K:List UInt8→Option Pk} (h:Kin K) {x:List UInt8} (hx:x ∈ names) (kd:Pk):Kin (kput K x kd):=by
 intro s hs;unfold kput at hs;by_cases e:s=x
 · rw [e];exact hx
 · rw [if_neg e] at hs;exact h s hs
theorem Kin.over {K1 K2:List UInt8→Option Pk} (h2:Kin K2) (h1:Kin K1):Kin (kover K2 K1):=by
 intro s hs;unfold kover at hs
 cases e:K2 s with
 | none=>rw [e] at hs;exact h1 s hs
 | some k=>exact h2 s (by rw [e];simp)
theorem Kin.add {K:List UInt8→Option Pk} (h:Kin K) {x:List UInt8} (hx:x ∈ names):Kin (addK K x):=by
 unfold addK;split
 · exact h.put hx _
 · split
   · exact h.put hx _
   · exact h
theorem Kin.fold {K:List UInt8→Option Pk} (h:Kin K) (l:List (List UInt8)) (hl:∀ x ∈ l,x ∈ names):Kin (l.foldl addK K):=by
 induction l generalizing K with
 | nil=>exact h
 | cons x l ih=>exact ih (h.add (hl x (by simp))) (fun y hy=>hl y (by simp [hy]))
theorem kin_all:Kin K_all:=by
 unfold K_all;refine Kin.over ?_ (Kin.over ?_ (Kin.over ?_ (Kin.over ?_ (Kin.over ?_ (Kin.over ?_ (Kin.over ?_ Kin.none))))))
 · unfold K_objects;repeat (first | exact Kin.none | refine Kin.put ?_ (by decide +kernel) _)
 · unfold K_catching;repeat (first | exact Kin.none | refine Kin.put ?_ (by decide +kernel) _)
 · unfold K_telling;repeat (first | exact Kin.none | refine Kin.put ?_ (by decide +kernel) _)
 · unfold K_storing;repeat (first | exact Kin.none | refine Kin.put ?_ (by decide +kernel) _)
 · exact Kin.none.fold _ (fun _ h=>h)
 · unfold K_moving;repeat (first | exact Kin.none | refine Kin.put ?_ (by decide +kernel) _)
 · unfold K_flows;repeat (first | exact Kin.none | refine Kin.put ?_ (by decide +kernel) _)
theorem ik_keyed:Go.Maps.Keyed Tryz.prog 2:=Go.Maps.int_keyed Tryz.underlying2
theorem ik_reads (n:Int) (hn:(Lit.int .i64 n).wf=true):keyOf Tryz.prog 2 (.int .i64 n)=some (.int .i64 n):=(intKey Tryz.underlying2).reads n hn
theorem ik_inv (v:Value) (kl:Lit) (h:keyOf Tryz.prog 2 v=some kl):∃ n:Int,(Lit.int .i64 n).wf=true∧v=.int .i64 n∧kl=.int .i64 n:=(intKey Tryz.underlying2).inv v kl h
def ik:Key Tryz.prog 2 Int where
 val n:=.int .i64 n
 lit n:=.int .i64 n
 ok n:=(Lit.int .i64 n).wf=true
 kd:=ik_keyed
 reads:=ik_reads
 inv:=ik_inv
 inj x y h:=by injection h
 isk x:=trivial
def Does (X:Nat→Prop) (w:World) (pb:Nat):Prop:=∃ n g,n≤500∧MapIs ik w pb n g∧(∀ s kd,K_all s=some kd→∃ v,g (num s)=some v∧Good X w kd v)∧∀ k,(∀ s,(K_all s).isSome=true→num s≠k)→g k=none
theorem Does.keeps {X S:Nat→Prop} {w w':World} {pb:Nat} (h:Does X w pb) (k:Keeps S w w') (h0:¬ S pb) (hx:∀ g,X g→¬ S g):Does X w' pb:=by
 obtain ⟨n,g,hn,h1,h2,h5⟩:=h;refine ⟨n,g,hn,h1.keeps k h0,fun s kd hs=>?_,h5⟩
 obtain ⟨v,h3,h4⟩:=h2 s kd hs;exact ⟨v,h3,h4.keeps (fun g cs t f hg hb=>k.heap hb (hx g hg))⟩
end Go.Proofs.Shed
namespace Go.Proofs.Shed
open Go.RowKit Go.Proofs.Cod
structure VM where
 x:Sp
 d:Stk
 r:Stk
 hlo:Int
 hto:Int
 ip:Int
 self:Int
 root:Int
 list:Int
 slots:Int
 fuel:Int
 out:List UInt8
 inp:List UInt8
 over:Bool
 base:Int
 caught:Int
 handler:Int
 deriving DecidableEq
namespace Ari
def flagI (b:Bool):Int:=if b then -1 else 0
def divide (a b:Int):Int × Int :=
 if b = -1 then (wrap64 (-a),0) else
 if a.tmod b≠0∧(a.tmod b<0)≠(b<0) then (a.tdiv b-1,a.tmod b+b) else (a.tdiv b,a.tmod b)
def shiftN (n:Int):Nat:=min (n % 18446744073709551616).toNat 64
def plainOf (op:List UInt8) (a b:Int):Int :=
 if op=[97,110,100] then Go.bits .and .i64 a b
 else if op=[111,114] then Go.bits .or .i64 a b
 else if op=[120,111,114] then Go.bits .xor .i64 a b
 else if op=[108,115,104,105,102,116] then wrap64 ((a % 18446744073709551616)*2 ^ shiftN b)
 else if op=[114,115,104,105,102,116] then wrap64 ((a % 18446744073709551616) / 2 ^ shiftN b)
 else if op=[61] then flagI (decide (a=b))
 else if op=[60,62] then flagI (decide (a≠b))
 else if op=[60] then flagI (decide (a<b))
 else if op=[62] then flagI (decide (b<a))
 else if op=[117,60] then flagI (decide (a % 18446744073709551616<b % 18446744073709551616))
 else if op=[109,105,110] then min a b
 else max a b
def two (op:List UInt8) (a b:Int):Int × Int :=
 if op=[43] then (wrap64 (a+b),0)
 else if op=[45] then (wrap64 (a-b),0)
 else if op=[42] then (wrap64 (a*b),0)
 else if op=[47] then (if b=0 then (0,-10) else ((divide a b).1,0))
 else if op=[109,111,100] then (if b=0 then (0,-10) else ((divide a b).2,0))
 else (plainOf op a b,0)
def oneOf (op:List UInt8) (a:Int):Int :=
 if op=[110,101,103,97,116,101] then wrap64 (-a)
 else if op=[105,110,118,101,114,116] then -a-1
 else if op=[97,98,115] then max a (wrap64 (-a))
 else if op=[48,61] then flagI (decide (a=0))
 else if op=[48,60] then flagI (decide (a<0))
 else if op=[49,43]∨op=[99,104,97,114,43] then wrap64 (a+1)
 else if op=[49,45] then wrap64 (a-1)
 else if op=[50,42] then wrap64 (a*2)
 else if op=[50,47] then a / 2
 else if op=[99,101,108,108,115] then wrap64 (a*8)
 else if op=[99,101,108,108,43] then wrap64 (a+8)
 else Go.bits .andNot .i64 (wrap64 (a+7)) 7
end Ari
namespace Heap
def resize (m:Mem) (lo hi a n:Int):Mem × Int × Int :=
 match blocks m lo hi with
 | none=>(m,0,-2052)
 | some l =>
  if find l a<0 then (m,0,-60) else
  let old:=(l.getD (find l a).toNat ⟨0,0,false⟩).size-8
  if 0≤n∧n≤old then (m,a,0) else
  let q:=alloc m lo hi n
  if q.2.2≠0 then (q.1,0,-61) else
  let m2:=(q.1.setText q.2.1 (q.1.text a old).1).1
  ((free m2 lo hi a).1,q.2.1,(free m2 lo hi a).2)
end Heap
namespace VM
def cell (v:VM) (a:Int):Int × Int:=v.x.mem.cell a
def mem (v:VM) (m:Mem):VM:={ v with x:={ v.x with mem:=m } }
def push (v:VM) (l:List Int):VM × Int:=({ v.mem (Stk.push v.x.mem v.d l).1 with d:=(Stk.push v.x.mem v.d l).2.1 },(Stk.push v.x.mem v.d l).2.2)
def rpush (v:VM) (l:List Int):VM × Int:=({ v.mem (Stk.push v.x.mem v.r l).1 with r:=(Stk.push v.x.mem v.r l).2.1 },(Stk.push v.x.mem v.r l).2.2)
def pop (v:VM):VM × Int × Int:=({ v with d:=(Stk.pop v.x.mem v.d).1 },(Stk.pop v.x.mem v.d).2)
def rpop (v:VM):VM × Int × Int:=({ v with r:=(Stk.pop v.x.mem v.r).1 },(Stk.pop v.x.mem v.r).2)
def rdrop (v:VM) (n:Int):VM × Int:=({ v with r:=(Stk.drop v.r n).1 },(Stk.drop v.r n).2)
def ddrop (v:VM) (n:Int):VM × Int:=({ v with d:=(Stk.drop v.d n).1 },(Stk.drop v.d n).2)
def setSp (v:VM) (q:Sp × Int):VM × Int:=({ v with x:=q.1 },q.2)
def setCell (v:VM) (a n:Int):VM × Int:=(v.mem (v.x.mem.setCell a n).1,(v.x.mem.setCell a n).2)
def setByte (v:VM) (a n:Int):VM × Int:=(v.mem (v.x.mem.setByte a n).1,(v.x.mem.setByte a n).2)
def put (v:VM) (t:List UInt8):VM:={ v with out:=v.out++t.take (65536-v.out.length) }
def baseN (v:VM):Int:=(v.cell v.base).1
def inline (v:VM):VM × Int × Int:=({ v with ip:=wrap64 (v.ip+8) },v.cell v.ip)
def definition (v:VM) (xt:Int):VM × Int:=if (v.rpush [v.ip]).2≠0 then v.rpush [v.ip] else ({ (v.rpush [v.ip]).1 with ip:=xt+8 },0)
def method (v:VM) (xt o:Int):VM × Int :=
 if (v.cell xt).2≠0∨(v.cell xt).1≠1004 then (v,-14)
 else if (v.rpush [v.self,v.ip]).2≠0 then v.rpush [v.self,v.ip]
 else ({ (v.rpush [v.self,v.ip]).1 with self:=o,ip:=xt+8 },0)
def send (v:VM) (a sel:Int):VM × Int:=if (Obj.send v.x.mem v.root a sel).2.2≠0 then (v,(Obj.send v.x.mem v.root a sel).2.2) else v.method (Obj.send v.x.mem v.root a sel).1 a
def handlerOf (n:Int):Int:=if n<0∨1048576<n then 0 else n
def tops (m:Mem) (d:Stk) (n:Nat):List Int:=(List.range n).map fun (i:Nat)=>(Stk.at_ m d ((n:Int)-1-i)).1
def withN (n:Nat) (f:VM→List Int→VM × Int) (v:VM):VM × Int:=if v.d.depth<n then (v,-4) else f { v with d:={ v.d with depth:=v.d.depth-n } } (tops v.x.mem v.d n)
def pushOf (f:VM→VM × Int × Int) (v:VM):VM × Int:=if (f v).2.2≠0 then ((f v).1,(f v).2.2) else (f v).1.push [(f v).2.1]
def lookOf (f:VM→Int→Int × Int) (v:VM) (l:List Int):VM × Int:=if (f v (l.getD 0 0)).2≠0 then (v,(f v (l.getD 0 0)).2) else v.push [(f v (l.getD 0 0)).1]
def movesOf (ps:List Int) (v:VM) (l:List Int):VM × Int:=v.push (ps.map fun p=>l.getD p.toNat 0)
def unloop (v:VM):VM × Int:=if v.r.depth<2 then (v,-6) else v.rdrop (v.r.depth-2)
def crosses (x y n:Int):Bool:=decide (Go.bits .and .i64 (Go.bits .xor .i64 x y) (Go.bits .xor .i64 x n)<0)
def loop (v:VM) (n:Int):VM × Int :=
 let q:=v.inline
 if q.2.2≠0 then (q.1,q.2.2) else
 let l:=Stk.at_ q.1.x.mem q.1.r 1
 if l.2≠0 then (q.1,l.2) else
 let i:=q.1.rpop
 let x:=wrap64 (i.2.1-l.1)
 if crosses x (wrap64 (x+n)) n then ((i.1.rpop).1,0)
 else { i.1 with ip:=q.2.1 }.rpush [wrap64 (i.2.1+n)]
def shown (v:VM) (t:List UInt8):VM × Int:=if t=[] then (v,-40) else (v.put (t++[32]),0)
def caughtF (v:VM):VM × Int :=
 if v.r.depth<4 then (v,-6) else
 let l:=tops v.x.mem v.r 4
 let u:=(v.rdrop (v.r.depth-4)).1
 { u with ip:=l.getD 0 0,self:=l.getD 1 0,handler:=handlerOf (l.getD 3 0) }.push [0]
def throw (v:VM) (e:Int):VM × Bool :=
 if v.handler<4∨e = -2053 then (v,false) else
 if (v.rdrop v.handler).2≠0 then (v,false) else
 let u:=(v.rdrop v.handler).1
 let l:=tops u.x.mem u.r 4
 let t:={ (u.rdrop (v.handler-4)).1 with ip:=l.getD 0 0,self:=l.getD 1 0,handler:=handlerOf (l.getD 3 0) }
 if l.getD 2 0<0∨1048576<l.getD 2 0 then (t,false) else
 if (t.ddrop (l.getD 2 0)).2≠0 then ((t.ddrop (l.getD 2 0)).1,false) else
 (((t.ddrop (l.getD 2 0)).1.push [e]).1,decide (((t.ddrop (l.getD 2 0)).1.push [e]).2=0))
def outcome (q:VM × Int):VM × Int:=if q.2=0 then q else ((throw q.1 q.2).1,if (throw q.1 q.2).2 then 0 else q.2)
def unsig (n:Int):Int:=n % 18446744073709551616
def one1 (f:VM→Int→VM × Int) (v:VM) (l:List Int):VM × Int:=f v (l.getD 0 0)
def two2 (f:VM→Int→Int→VM × Int) (v:VM) (l:List Int):VM × Int:=f v (l.getD 0 0) (l.getD 1 0)
def arith (f:List UInt8→Int→Int→Int × Int) (op:List UInt8) (v:VM) (l:List Int):VM × Int:=if (f op (l.getD 0 0) (l.getD 1 0)).2≠0 then (v,(f op (l.getD 0 0) (l.getD 1 0)).2) else v.push [(f op (l.getD 0 0) (l.getD 1 0)).1]
def heapOf (v:VM) (q:Mem × Int × Int) (a:Int):VM × Int:=(v.mem q.1).push [a,q.2.2]
def newF (v:VM) (c:Int):VM × Int :=
 if Class.is v.x.mem v.root c=false then (v,-2048) else
 let q:=Obj.heap v.x.mem v.hlo v.hto c
 if q.2.2≠0 then (v.mem q.1,q.2.2) else (v.mem q.1).push [q.2.1]
def doF (en:VM→Int→VM × Int) (f:Nat):VM→List Int→VM × Int :=
 if f=300 then one1 fun v n=>let q:=v.inline;(if q.2.2=0∧n=0 then { q.1 with ip:=q.2.1 } else q.1,q.2.2)
 else if f=301 then fun v l=>v.rpush l
 else if f=304 then one1 fun v n=>v.loop n
 else if f=309 then one1 en
 else if f=313 then one1 fun v n=>if n=0 then v.push [0] else v.push [n,n]
 else if f=314 then one1 fun v n=>if n<0∨v.d.depth≤n then (v,-4) else v.push [(Stk.at_ v.x.mem v.d n).1]
 else if f=316 then one1 fun v n=>v.rpush [n]
 else if f=327 then two2 fun v n a=>v.setCell a n
 else if f=328 then two2 fun v n a=>v.setByte a n
 else if f=330 then two2 fun v n a=>if (v.cell a).2≠0 then (v,(v.cell a).2) else v.setCell a (wrap64 ((v.cell a).1+n))
 else if f=332 then one1 fun v n=>v.setSp (v.x.allot n)
 else if f=333 then one1 fun v n=>v.setSp (v.x.comma n)
 else if f=334 then one1 fun v n=>v.setSp (v.x.char n)
 else if f=336 then one1 fun v n=>v.heapOf (Heap.alloc v.x.mem v.hlo v.hto n) (Heap.alloc v.x.mem v.hlo v.hto n).2.1
 else if f=338 then one1 fun v n=>(v.mem (Heap.free v.x.mem v.hlo v.hto n).1).push [(Heap.free v.x.mem v.hlo v.hto n).2]
 else if f=340 then two2 fun v a n=>v.heapOf (Heap.resize v.x.mem v.hlo v.hto a n) (if (Heap.resize v.x.mem v.hlo v.hto a n).2.2≠0 then a else (Heap.resize v.x.mem v.hlo v.hto a n).2.1)
 else if f=342 then one1 fun v n=>(v.put [UInt8.ofNat (n % 256).toNat],0)
 else if f=345 then two2 fun v a n=>(v.put (v.x.mem.text a n).1,(v.x.mem.text a n).2)
 else if f=346 then one1 fun v n=>v.shown (Num.show_ n v.baseN)
 else if f=348 then one1 fun v n=>v.shown (Num.unsigned (unsig n) v.baseN)
 else if f=350 then one1 fun v n =>
  if (v.rpush [v.ip,v.self,v.d.depth,v.handler]).2≠0 then v.rpush [v.ip,v.self,v.d.depth,v.handler]
  else let u:=(v.rpush [v.ip,v.self,v.d.depth,v.handler]).1;en { u with handler:=u.r.depth,ip:=u.caught } n
 else if f=353 then one1 fun v n=>(v,n)
 else if f=356 then one1 newF
 else if f=358 then one1 fun v a=>if (Obj.cls v.x.mem v.root a).2≠0 then (v,(Obj.cls v.x.mem v.root a).2) else v.push [(Obj.cls v.x.mem v.root a).1]
 else if f=360 then one1 fun v a=>let q:=v.inline;if q.2.2≠0 then (q.1,q.2.2) else q.1.send a q.2.1
 else if f=362 then one1 fun v a=>let q:=v.inline;if q.2.2≠0 then (q.1,q.2.2) else q.1.method q.2.1 a
 else fun v _=>(v,-14)
def getF (f:Nat):VM→VM × Int × Int :=
 if f=297 then inline
 else if f=305 then fun v=>(v,Stk.at_ v.x.mem v.r 0)
 else if f=306 then fun v=>(v,Stk.at_ v.x.mem v.r 2)
 else if f=315 then fun v=>(v,v.d.depth,0)
 else if f=317 then rpop
 else if f=318 then fun v=>(v,Stk.at_ v.x.mem v.r 0)
 else if f=331 then fun v=>(v,v.x.here,0)
 else if f=349 then fun v=>match v.inp with | []=>(v,-1,0) | c :: r=>({ v with inp:=r },c.toNat,0)
 else fun v=>(v,v.self,0)
def plainF (f:Nat):VM→VM × Int :=
 if f=295 then fun v=>let q:=v.rpop;({ q.1 with ip:=q.2.1 },q.2.2)
 else if f=298 then fun v=>let q:=v.inline;({ q.1 with ip:=q.2.1 },q.2.2)
 else if f=302 then fun v=>v.loop 1
 else if f=307 then unloop
 else if f=311 then fun v=>({ v with over:=true },0)
 else if f=335 then fun v=>v.setSp v.x.align
 else if f=343 then fun v=>(v.put [10],0)
 else if f=344 then fun v=>(v.put [32],0)
 else if f=351 then caughtF
 else if f=354 then fun v=>(v,-1)
 else if f=364 then fun v =>
  let q:=v.inline
  if q.2.2≠0 then (q.1,q.2.2) else
  let p:=q.1.inline
  if p.2.2≠0 then (p.1,p.2.2) else
  let y:=Class.lookup p.1.x.mem q.2.1 p.2.1
  if y.2.2=false then (p.1,-2049) else p.1.method y.1.xt p.1.self
 else fun v=>if v.r.depth<2 then (v,-6) else
  let q:=v.rpop
  let p:={ q.1 with ip:=q.2.1 }.rpop
  ({ p.1 with self:=p.2.1 },0)
def readF (f:Nat):VM→Int→Int × Int:=if f=324 then fun v a=>v.x.mem.cell a else fun v a=>v.x.mem.byteAt a
def den (en:VM→Int→VM × Int):Pk→VM→VM × Int
 | .plain f=>plainF f
 | .with_ n f=>withN n.toNat (doF en f)
 | .push f=>pushOf (getF f)
 | .moves n l=>withN n.toNat (movesOf l)
 | .look f=>withN 1 (lookOf (readF f))
 | .two op=>withN 2 (arith Ari.two op)
 | .one op=>withN 1 (arith (fun op a _=>(Ari.oneOf op a,0)) op)
def enterF (en:VM→Int→VM × Int) (v:VM) (xt:Int):VM × Int :=
 let c:=v.cell xt
 if c.2≠0 then (v,c.2) else
 if c.1=1001 then v.definition xt else
 if c.1=1002 then v.push [xt+8] else
 if c.1=1003∨c.1=1005 then
  (if (v.cell (xt+8)).2≠0 then (v,(v.cell (xt+8)).2) else v.push [if c.1=1005 then wrap64 ((v.cell (xt+8)).1+v.self) else (v.cell (xt+8)).1]) else
 match K_all (nameOf c.1) with
 | some pk=>den en pk v
 | none=>(v,-14)
def enterN:Nat→VM→Int→VM × Int
 | 0=>fun v _=>(v,-14)
 | k+1=>enterF (enterN k)
def enter (v:VM) (xt:Int):VM × Int:=enterN (v.d.depth.toNat+1) v xt
def step (v:VM) (xt:Int):VM × Int:=if v.fuel≤0 then (v,-2053) else outcome (enter { v with fuel:=v.fuel-1 } xt)
def astray (v:VM) (e:Int):VM × Int:=if v.fuel≤0 then (v,-2053) else outcome ({ v with fuel:=v.fuel-1 },e)
def round (v:VM):VM × Int:=if v.inline.2.2=0 then v.inline.1.step v.inline.2.1 else v.inline.1.astray v.inline.2.2
def runN:Nat→VM × Int→VM × Int
 | 0,q=>q
 | k+1,q=>if q.2=0∧q.1.ip≠0∧q.1.over=false then runN k q.1.round else q
def run (v:VM) (xt:Int):VM × Int:=let q:={ v with ip:=0,self:=0,handler:=0 }.step xt;runN (q.1.fuel.toNat+2) q
end VM
end Go.Proofs.Shed
namespace Go.Proofs.Shed
namespace Stk
theorem at_ok (m:Mem) (d:Stk) (i:Int) (h0:0≤d.from_) (h8:d.from_ % 8=0) (hm:d.from_+d.most*8≤m.size) (hd:d.depth≤d.most) (i0:0≤i) (i1:i<d.depth):(at_ m d i).2=0:=by
 unfold at_;rw [if_neg (by omega),if_neg (by omega)]
 unfold Mem.cell;rw [if_pos];rw [Mem.at_zero];unfold place;omega
theorem pop_at (m:Mem) (d:Stk) (i:Int) (h0:0≤d.from_) (h8:d.from_ % 8=0) (hm:d.from_+d.most*8≤m.size) (hd:d.depth≤d.most) (i0:0≤i) (i1:i<d.depth) :
 pop m { d with depth:=d.depth-i }=({ d with depth:=d.depth-i-1 },(at_ m d i).1,0):=by
 have e:at_ m { d with depth:=d.depth-i } 0=at_ m d i:=by
  unfold at_ place;rw [if_neg (by omega),if_neg (by show ¬ d.depth-i≤0;omega),if_neg (by omega),if_neg (by omega)]
  congr 1
  show d.from_+(d.depth-i-1-0)*8=d.from_+(d.depth-1-i)*8
  omega
 have h:=at_ok m d i h0 h8 hm hd i0 i1;unfold pop;rw [e,if_pos h];rw [← h]
end Stk
namespace VM
theorem tops_len (m:Mem) (d:Stk) (n:Nat):(tops m d n).length=n:=by unfold tops;simp
theorem tops_get (m:Mem) (d:Stk) (n i:Nat) (h:i<(tops m d n).length):(tops m d n)[i]=(Stk.at_ m d ((n:Int)-1-i)).1:=by simp [tops]
def part (L:List Int) (i:Nat):List Int:=(List.range L.length).map fun j=>if L.length-i≤j then L.getD j 0 else 0
theorem part_len (L:List Int) (i:Nat):(part L i).length=L.length:=by unfold part;simp
theorem part_get (L:List Int) (i j:Nat) (h:j<(part L i).length):(part L i)[j]=if L.length-i≤j then L.getD j 0 else 0:=by simp [part]
theorem part_zero (L:List Int):part L 0=List.replicate L.length 0:=by
 apply List.ext_getElem
 · simp [part_len]
 · intro j h1 h2
   rw [part_get,List.getElem_replicate];rw [part_len] at h1;rw [if_neg (by omega)]
theorem part_all (L:List Int):part L L.length=L:=by
 apply List.ext_getElem
 · simp [part_len]
 · intro j h1 h2
   rw [part_get,if_pos (by omega)]
   simp [List.getD,h2]
theorem part_step (L:List Int) (i:Nat) (h:i<L.length):(part L i).set (L.length-1-i) (L.getD (L.length-1-i) 0)=part L (i+1):=by
 apply List.ext_getElem
 · simp [part_len]
 · intro j h1 h2
   rw [List.getElem_set,part_get,part_get];rw [part_len] at h2;by_cases e:L.length-1-i=j
   · rw [if_pos e,if_pos (by omega),e]
   · rw [if_neg e]
     by_cases e2:L.length-i≤j
     · rw [if_pos e2,if_pos (by omega)]
     · rw [if_neg e2,if_neg (by omega)]
end VM
end Go.Proofs.Shed
namespace Go.Proofs.Ari
open Go Go.RowKit Go.Proofs.K Go.Proofs.Shed Go.Proofs.Shed.Ari
theorem shift_any (n:Int) (w:World):Calls Tryz.prog 427 #[.int .i64 n] w fun e w'=>e=.returned (.int .u64 (shiftN n:Nat))∧w=w':=by
 obtain ⟨k,hk⟩:∃ k:Nat,k=(n % 18446744073709551616).toNat:=⟨_,rfl⟩;have hc:IntKind.u64.wrap n=(k:Int):=by rw [IntKind.wrap_u64];omega
 unfold shiftN;rw [← hk];clear hk;by_cases h:k≤64
 · have h2:((64:Int)<k)=False:=by simp;omega
   rw [Nat.min_eq_left (by omega)]
   clear h
   go_enter Tryz.func427,Tryz.ntmps427
   go_wp2_with fail;go_ret
   exact ⟨rfl,rfl⟩
 · have h1:((64:Int)<k)=True:=by simp;omega
   rw [Nat.min_eq_right (by omega)]
   clear h
   go_enter Tryz.func427,Tryz.ntmps427
   go_wp2_with fail;go_ret
   exact ⟨rfl,rfl⟩
def In (a:Int):Prop := -9223372036854775808≤a∧a≤9223372036854775807
theorem divide_any (a b:Int) (w:World) (ha:In a) (hb:In b) (hb0:b≠0):Calls Tryz.prog 410 #[.int .i64 a,.int .i64 b] w fun e w'=>e=.returned (.tuple #[.int .i64 (divide a b).1,.int .i64 (divide a b).2])∧Keeps (fun _=>False) w w':=by
 unfold divide;by_cases h1:b = -1
 · subst h1
   rw [if_pos rfl];clear hb0 hb
   go_enter Tryz.func410,Tryz.ntmps410
   go_wp2_with fail;go_ret2
   exact ⟨rfl,Keeps.refl _ _⟩
 · rw [if_neg h1]
   have d1:(b == -1)=false:=by simp [h1]
   have d0:(b == 0)=false:=by simp [hb0]
   have hq:=Int.mul_tdiv_add_tmod a b;have hm:(a.tmod b).natAbs<b.natAbs:=by rw [Int.natAbs_tmod];exact Nat.mod_lt _ (by omega)
   have hqa:(a.tdiv b).natAbs*2≤9223372036854775808∨b=1:=by
    by_cases hb1:b=1
    · exact .inr hb1
    · refine .inl ?_
      rw [Int.natAbs_tdiv]
      show a.natAbs / b.natAbs*2≤_
      have h2:2≤b.natAbs:=by omega
      have h3:a.natAbs≤9223372036854775808:=by unfold In at ha;omega
      have h4:a.natAbs / b.natAbs≤a.natAbs / 2:=Nat.div_le_div_left h2 (by omega)
      omega
   have hsm:(a.tmod b<0→a<0)∧(0<a.tmod b→0<a):=by
    constructor
    · intro h
      rcases Int.lt_or_le a 0 with hc | hc
      · exact hc
      · have:=Int.tmod_nonneg b hc;omega
    · intro h
      rcases Int.lt_or_le 0 a with hc | hc
      · exact hc
      · have:=Int.tmod_nonneg b (show 0 ≤ -a by omega)
        rw [Int.neg_tmod] at this;omega
   have hz:b=1→a.tmod b=0:=fun e=>by rw [e];exact Int.tmod_one a
   have hqi : -9223372036854775808≤a.tdiv b∧a.tdiv b≤9223372036854775807:=by
    rcases hqa with h | h
    · omega
    · rw [h,Int.tdiv_one];exact ha
   unfold In at ha hb;have hr : -9223372036854775808≤a.tmod b∧a.tmod b≤9223372036854775807:=by omega
   obtain ⟨q,e1⟩:∃ q,a.tdiv b=q:=⟨_,rfl⟩;obtain ⟨r,e2⟩:∃ r,a.tmod b=r:=⟨_,rfl⟩;rw [e1] at hqi hqa ⊢;rw [e2] at hr hm hsm hz ⊢;clear hq;have w1:IntKind.i64.wrap q=q:=IntWalk.i64_in _ hqi;have w2:IntKind.i64.wrap r=r:=IntWalk.i64_in _ hr;have u1:wrap64 q=q:=IntWalk.wrap64_in _ hqi;have u2:wrap64 r=r:=IntWalk.wrap64_in _ hr;by_cases h2:r=0
   · rw [if_neg (fun h=>h.1 h2)]
     subst h2;clear hm hqa hsm hz hqi hr ha hb
     go_enter Tryz.func410,Tryz.ntmps410
     go_wp2_with fail
     go_region
     all_goals
      go_wp2_with fail;go_ret2
      exact ⟨rfl,Keeps.drew _ _⟩
   · have d2:(r != 0)=true:=by simp [h2]
     have hb1:b≠1:=fun e=>h2 (hz e)
     have hqb : -9223372036854775808≤q-1∧q-1≤9223372036854775807:=by
      rcases hqa with h | h
      · omega
      · exact absurd h hb1
     by_cases h3:r<0
     · have d3:decide (r<0)=true:=decide_eq_true h3
       by_cases h4:b<0
       · have d4:decide (b<0)=true:=decide_eq_true h4
         rw [if_neg (fun h=>h.2 (by simp [h3,h4]))]
         clear hm hqa hsm hz hqi hr ha hb hqb hb1 h3 h4
         go_enter Tryz.func410,Tryz.ntmps410
         go_wp2_with fail
         go_region
         all_goals
          go_wp2_with fail;go_ret2
          exact ⟨rfl,Keeps.drew _ _⟩
       · have d4:decide (b<0)=false:=decide_eq_false h4
         rw [if_pos ⟨h2,by simp [h3,h4]⟩]
         have u3:wrap64 (q-1)=q-1:=IntWalk.wrap64_in _ hqb;have u4:wrap64 (r+b)=r+b:=IntWalk.wrap64_in _ (by omega)
         clear hm hqa hsm hz hqi hr ha hb hqb hb1 h3 h4
         go_enter Tryz.func410,Tryz.ntmps410
         go_wp2_with fail
         go_region
         all_goals
          go_wp2_with fail;go_ret2
          refine ⟨?_,Keeps.drew _ _⟩
          show Ending.returned (.tuple #[.int .i64 (wrap64 (q-1)),.int .i64 (wrap64 (r+b))])=_
          rw [u3,u4]
     · have d3:decide (r<0)=false:=decide_eq_false h3
       by_cases h4:b<0
       · have d4:decide (b<0)=true:=decide_eq_true h4
         rw [if_pos ⟨h2,by simp [h3,h4]⟩]
         have u3:wrap64 (q-1)=q-1:=IntWalk.wrap64_in _ hqb;have u4:wrap64 (r+b)=r+b:=IntWalk.wrap64_in _ (by omega)
         clear hm hqa hsm hz hqi hr ha hb hqb hb1 h3 h4
         go_enter Tryz.func410,Tryz.ntmps410
         go_wp2_with fail
         go_region
         all_goals
          go_wp2_with fail;go_ret2
          refine ⟨?_,Keeps.drew _ _⟩
          show Ending.returned (.tuple #[.int .i64 (wrap64 (q-1)),.int .i64 (wrap64 (r+b))])=_
          rw [u3,u4]
       · have d4:decide (b<0)=false:=decide_eq_false h4
         rw [if_neg (fun h=>h.2 (by simp [h3,h4]))]
         clear hm hqa hsm hz hqi hr ha hb hqb hb1 h3 h4
         go_enter Tryz.func410,Tryz.ntmps410
         go_wp2_with fail
         go_region
         all_goals
          go_wp2_with fail;go_ret2
          exact ⟨rfl,Keeps.drew _ _⟩
theorem isPlain_cases (v:List UInt8) (h:isPlain v=true):v=[97,110,100]∨v=[111,114]∨v=[120,111,114]∨v=[108,115,104,105,102,116]∨v=[114,115,104,105,102,116]∨v=[61]∨v=[60,62]∨v=[60]∨v=[62]∨v=[117,60]∨v=[109,105,110]∨v=[109,97,120]:=by
 simpa [isPlain,or_assoc] using h
def PlainPost (v:List UInt8) (a b:Int) (w:World) (e:Ending) (w':World):Prop:=e=.returned (.tuple #[.int .i64 (plainOf v a b),.bool true])∧w=w'
theorem plain_and (a b:Int) (w:World):Calls Tryz.prog 411 #[.string ⟨#[97,110,100]⟩,.int .i64 a,.int .i64 b] w (PlainPost [97,110,100] a b w):=by
 go_enter Tryz.func411,Tryz.ntmps411
 go_wp2_with (first | (refine (shift_any _ _).mono ?_;rintro e w1 ⟨rfl,rfl⟩) | (refine (flag_any _ _).mono ?_;rintro e w1 ⟨rfl,rfl⟩))
 all_goals
  go_ret2
  refine ⟨congrArg (fun n=>Ending.returned (.tuple #[.int .i64 n,.bool true])) ?_,rfl⟩
 rfl
theorem plain_or (a b:Int) (w:World):Calls Tryz.prog 411 #[.string ⟨#[111,114]⟩,.int .i64 a,.int .i64 b] w (PlainPost [111,114] a b w):=by
 go_enter Tryz.func411,Tryz.ntmps411
 go_wp2_with (first | (refine (shift_any _ _).mono ?_;rintro e w1 ⟨rfl,rfl⟩) | (refine (flag_any _ _).mono ?_;rintro e w1 ⟨rfl,rfl⟩))
 all_goals
  go_ret2
  refine ⟨congrArg (fun n=>Ending.returned (.tuple #[.int .i64 n,.bool true])) ?_,rfl⟩
 rfl
theorem plain_xor (a b:Int) (w:World):Calls Tryz.prog 411 #[.string ⟨#[120,111,114]⟩,.int .i64 a,.int .i64 b] w (PlainPost [120,111,114] a b w):=by
 go_enter Tryz.func411,Tryz.ntmps411
 go_wp2_with (first | (refine (shift_any _ _).mono ?_;rintro e w1 ⟨rfl,rfl⟩) | (refine (flag_any _ _).mono ?_;rintro e w1 ⟨rfl,rfl⟩))
 all_goals
  go_ret2
  refine ⟨congrArg (fun n=>Ending.returned (.tuple #[.int .i64 n,.bool true])) ?_,rfl⟩
 rfl
theorem plain_eq (a b:Int) (w:World):Calls Tryz.prog 411 #[.string ⟨#[61]⟩,.int .i64 a,.int .i64 b] w (PlainPost [61] a b w):=by
 go_enter Tryz.func411,Tryz.ntmps411
 go_wp2_with (first | (refine (shift_any _ _).mono ?_;rintro e w1 ⟨rfl,rfl⟩) | (refine (flag_any _ _).mono ?_;rintro e w1 ⟨rfl,rfl⟩))
 all_goals
  go_ret2
  refine ⟨congrArg (fun n=>Ending.returned (.tuple #[.int .i64 n,.bool true])) ?_,rfl⟩
 all_goals first | rfl | (simp [plainOf,flagI, *];done) | (simp [plainOf,flagI, *];omega)
theorem plain_ne (a b:Int) (w:World):Calls Tryz.prog 411 #[.string ⟨#[60,62]⟩,.int .i64 a,.int .i64 b] w (PlainPost [60,62] a b w):=by
 go_enter Tryz.func411,Tryz.ntmps411
 go_wp2_with (first | (refine (shift_any _ _).mono ?_;rintro e w1 ⟨rfl,rfl⟩) | (refine (flag_any _ _).mono ?_;rintro e w1 ⟨rfl,rfl⟩))
 all_goals
  go_ret2
  refine ⟨congrArg (fun n=>Ending.returned (.tuple #[.int .i64 n,.bool true])) ?_,rfl⟩
 all_goals first | rfl | (simp [plainOf,flagI, *];done) | (simp [plainOf,flagI, *];omega)
theorem plain_lt (a b:Int) (w:World):Calls Tryz.prog 411 #[.string ⟨#[60]⟩,.int .i64 a,.int .i64 b] w (PlainPost [60] a b w):=by
 go_enter Tryz.func411,Tryz.ntmps411
 go_wp2_with (first | (refine (shift_any _ _).mono ?_;rintro e w1 ⟨rfl,rfl⟩) | (refine (flag_any _ _).mono ?_;rintro e w1 ⟨rfl,rfl⟩))
 all_goals
  go_ret2
  refine ⟨congrArg (fun n=>Ending.returned (.tuple #[.int .i64 n,.bool true])) ?_,rfl⟩
 all_goals first | rfl | (simp [plainOf,flagI, *];done) | (simp [plainOf,flagI, *];omega)
theorem plain_gt (a b:Int) (w:World):Calls Tryz.prog 411 #[.string ⟨#[62]⟩,.int .i64 a,.int .i64 b] w (PlainPost [62] a b w):=by
 go_enter Tryz.func411,Tryz.ntmps411
 go_wp2_with (first | (refine (shift_any _ _).mono ?_;rintro e w1 ⟨rfl,rfl⟩) | (refine (flag_any _ _).mono ?_;rintro e w1 ⟨rfl,rfl⟩))
 all_goals
  go_ret2
  refine ⟨congrArg (fun n=>Ending.returned (.tuple #[.int .i64 n,.bool true])) ?_,rfl⟩
 all_goals first | rfl | (simp [plainOf,flagI, *];done) | (simp [plainOf,flagI, *];omega)
theorem plain_min (a b:Int) (w:World):Calls Tryz.prog 411 #[.string ⟨#[109,105,110]⟩,.int .i64 a,.int .i64 b] w (PlainPost [109,105,110] a b w):=by
 go_enter Tryz.func411,Tryz.ntmps411
 go_wp2_with (first | (refine (shift_any _ _).mono ?_;rintro e w1 ⟨rfl,rfl⟩) | (refine (flag_any _ _).mono ?_;rintro e w1 ⟨rfl,rfl⟩))
 all_goals
  go_ret2
  refine ⟨congrArg (fun n=>Ending.returned (.tuple #[.int .i64 n,.bool true])) ?_,rfl⟩
 all_goals (simp [plainOf];omega)
theorem plain_max (a b:Int) (w:World):Calls Tryz.prog 411 #[.string ⟨#[109,97,120]⟩,.int .i64 a,.int .i64 b] w (PlainPost [109,97,120] a b w):=by
 go_enter Tryz.func411,Tryz.ntmps411
 go_wp2_with (first | (refine (shift_any _ _).mono ?_;rintro e w1 ⟨rfl,rfl⟩) | (refine (flag_any _ _).mono ?_;rintro e w1 ⟨rfl,rfl⟩))
 all_goals
  go_ret2
  refine ⟨congrArg (fun n=>Ending.returned (.tuple #[.int .i64 n,.bool true])) ?_,rfl⟩
 all_goals (simp [plainOf];omega)
theorem plain_lsh (a b:Int) (w:World):Calls Tryz.prog 411 #[.string ⟨#[108,115,104,105,102,116]⟩,.int .i64 a,.int .i64 b] w (PlainPost [108,115,104,105,102,116] a b w):=by
 have hb:shiftN b≤64:=Nat.min_le_right _ _;have hp:plainOf [108,115,104,105,102,116] a b=wrap64 ((a % 18446744073709551616)*2 ^ shiftN b):=rfl;unfold PlainPost;rw [hp];have HP:=h_ (shift_any b w);generalize shiftN b=k at HP hb ⊢;clear hp
 go_enter Tryz.func411,Tryz.ntmps411
 go_wp2_with fail;refine HP.out.mono ?_;rintro e w1 ⟨rfl,rfl⟩;go_wp2_with fail
 all_goals
  go_ret2
  refine ⟨congrArg (fun n=>Ending.returned (.tuple #[.int .i64 n,.bool true])) ?_,rfl⟩
 rw [IntKind.wrap_u64,IntKind.wrap_u64];generalize (2:Int) ^ k=z;unfold wrap64;omega
theorem plain_rsh (a b:Int) (w:World):Calls Tryz.prog 411 #[.string ⟨#[114,115,104,105,102,116]⟩,.int .i64 a,.int .i64 b] w (PlainPost [114,115,104,105,102,116] a b w):=by
 have hb:shiftN b≤64:=Nat.min_le_right _ _;have hp:plainOf [114,115,104,105,102,116] a b=wrap64 ((a % 18446744073709551616) / 2 ^ shiftN b):=rfl;unfold PlainPost;rw [hp];have HP:=h_ (shift_any b w);generalize shiftN b=k at HP hb ⊢;clear hp
 go_enter Tryz.func411,Tryz.ntmps411
 go_wp2_with fail;refine HP.out.mono ?_;rintro e w1 ⟨rfl,rfl⟩;go_wp2_with fail
 all_goals
  go_ret2
  refine ⟨congrArg (fun n=>Ending.returned (.tuple #[.int .i64 n,.bool true])) ?_,rfl⟩
 rw [IntKind.wrap_u64]
theorem plain_ult (a b:Int) (w:World):Calls Tryz.prog 411 #[.string ⟨#[117,60]⟩,.int .i64 a,.int .i64 b] w (PlainPost [117,60] a b w):=by
 have h1:IntKind.u64.wrap a=a % 18446744073709551616:=IntKind.wrap_u64 a;have h2:IntKind.u64.wrap b=b % 18446744073709551616:=IntKind.wrap_u64 b;have hp:plainOf [117,60] a b=flagI (decide (a % 18446744073709551616<b % 18446744073709551616)):=rfl;unfold PlainPost;rw [hp];generalize a % 18446744073709551616=x at h1 ⊢;generalize b % 18446744073709551616=y at h2 ⊢;clear hp
 go_enter Tryz.func411,Tryz.ntmps411
 go_wp2_with (first | (refine (shift_any _ _).mono ?_;rintro e w1 ⟨rfl,rfl⟩) | (refine (flag_any _ _).mono ?_;rintro e w1 ⟨rfl,rfl⟩))
 all_goals
  go_ret2
  refine ⟨congrArg (fun n=>Ending.returned (.tuple #[.int .i64 n,.bool true])) ?_,rfl⟩
 all_goals first | rfl | (simp [flagI, *];done) | (simp [flagI, *];omega)
theorem plain_any (v:List UInt8) (a b:Int) (w:World) (hv:isPlain v=true):Calls Tryz.prog 411 #[.string ⟨v.toArray⟩,.int .i64 a,.int .i64 b] w (PlainPost v a b w):=by
 rcases isPlain_cases v hv with rfl | rfl | rfl | rfl | rfl | rfl | rfl | rfl | rfl | rfl | rfl | rfl
 · exact plain_and a b w
 · exact plain_or a b w
 · exact plain_xor a b w
 · exact plain_lsh a b w
 · exact plain_rsh a b w
 · exact plain_eq a b w
 · exact plain_ne a b w
 · exact plain_lt a b w
 · exact plain_gt a b w
 · exact plain_ult a b w
 · exact plain_min a b w
 · exact plain_max a b w
theorem isPlain_not (v:List UInt8) (h:isPlain v=true):(v == [43])=false∧(v == [45])=false∧(v == [42])=false∧(v == [47])=false∧(v == [109,111,100])=false:=by
 rcases isPlain_cases v h with rfl | rfl | rfl | rfl | rfl | rfl | rfl | rfl | rfl | rfl | rfl | rfl <;> decide
def TwoPost (v:List UInt8) (a b:Int) (w:World) (e:Ending) (w':World):Prop:=e=.returned (.tuple #[.int .i64 (two v a b).1,.int .i64 (two v a b).2,.bool true])∧Keeps (fun _=>False) w w'
theorem two_add (a b:Int) (w:World):Calls Tryz.prog 319 #[.string ⟨#[43]⟩,.int .i64 a,.int .i64 b] w (TwoPost [43] a b w):=by
 go_enter Tryz.func319,Tryz.ntmps319
 go_wp2_with fail
 go_ret3
 exact ⟨rfl,Keeps.refl _ _⟩
theorem two_sub (a b:Int) (w:World):Calls Tryz.prog 319 #[.string ⟨#[45]⟩,.int .i64 a,.int .i64 b] w (TwoPost [45] a b w):=by
 go_enter Tryz.func319,Tryz.ntmps319
 go_wp2_with fail
 go_ret3
 exact ⟨rfl,Keeps.refl _ _⟩
theorem two_mul (a b:Int) (w:World):Calls Tryz.prog 319 #[.string ⟨#[42]⟩,.int .i64 a,.int .i64 b] w (TwoPost [42] a b w):=by
 go_enter Tryz.func319,Tryz.ntmps319
 go_wp2_with fail
 go_ret3
 exact ⟨rfl,Keeps.refl _ _⟩
theorem two_div (a b:Int) (w:World) (ha:In a) (hb:In b):Calls Tryz.prog 319 #[.string ⟨#[47]⟩,.int .i64 a,.int .i64 b] w (TwoPost [47] a b w):=by
 have ht:two [47] a b=if b=0 then (0,-10) else ((divide a b).1,0):=rfl
 unfold TwoPost;rw [ht];clear ht;by_cases h0:b=0
 · rw [if_pos h0]
   subst h0
   go_enter Tryz.func319,Tryz.ntmps319
   go_wp2_with fail
   go_ret3
   exact ⟨rfl,Keeps.refl _ _⟩
 · rw [if_neg h0]
   have HP:=h_ (divide_any a b w ha hb h0);generalize divide a b=q at HP ⊢;have d0:(b == 0)=false:=by simp [h0]
   clear h0
   go_enter Tryz.func319,Tryz.ntmps319
   go_wp2_with fail;refine HP.out.mono ?_;rintro e w1 ⟨rfl,k1⟩;have K1:=h_ k1;clear k1;go_wp2_with fail
   go_ret3
   exact ⟨rfl,K1.out⟩
theorem two_mod (a b:Int) (w:World) (ha:In a) (hb:In b):Calls Tryz.prog 319 #[.string ⟨#[109,111,100]⟩,.int .i64 a,.int .i64 b] w (TwoPost [109,111,100] a b w):=by
 have ht:two [109,111,100] a b=if b=0 then (0,-10) else ((divide a b).2,0):=rfl
 unfold TwoPost;rw [ht];clear ht;by_cases h0:b=0
 · rw [if_pos h0]
   subst h0
   go_enter Tryz.func319,Tryz.ntmps319
   go_wp2_with fail
   go_ret3
   exact ⟨rfl,Keeps.refl _ _⟩
 · rw [if_neg h0]
   have HP:=h_ (divide_any a b w ha hb h0);generalize divide a b=q at HP ⊢;have d0:(b == 0)=false:=by simp [h0]
   clear h0
   go_enter Tryz.func319,Tryz.ntmps319
   go_wp2_with fail;refine HP.out.mono ?_;rintro e w1 ⟨rfl,k1⟩;have K1:=h_ k1;clear k1;go_wp2_with fail
   go_ret3
   exact ⟨rfl,K1.out⟩
theorem two_plain (v:List UInt8) (a b:Int) (w:World) (hv:isPlain v=true):Calls Tryz.prog 319 #[.string ⟨v.toArray⟩,.int .i64 a,.int .i64 b] w (TwoPost v a b w):=by
 obtain ⟨d1,d2,d3,d4,d5⟩:=isPlain_not v hv;have HP:=h_ (plain_any v a b w hv)
 have ht:two v a b=(plainOf v a b,0):=by
  have n:=fun (l:List UInt8) (h:(v == l)=false)=>(show ¬ v=l by simpa using h)
  unfold two;rw [if_neg (n _ d1),if_neg (n _ d2),if_neg (n _ d3),if_neg (n _ d4),if_neg (n _ d5)]
 unfold TwoPost;rw [ht];unfold PlainPost at HP;generalize plainOf v a b=x at HP ⊢;clear ht hv
 go_enter Tryz.func319,Tryz.ntmps319
 go_wp2_with fail;refine HP.out.mono ?_;rintro e w1 ⟨rfl,rfl⟩;go_wp2_with fail
 go_ret3
 exact ⟨rfl,Keeps.refl _ _⟩
theorem two_any (v:List UInt8) (a b:Int) (w:World) (ha:In a) (hb:In b) (hv:isTwo v=true):Calls Tryz.prog 319 #[.string ⟨v.toArray⟩,.int .i64 a,.int .i64 b] w (TwoPost v a b w):=by
 have h:v=[43]∨v=[45]∨v=[42]∨v=[47]∨v=[109,111,100]∨isPlain v=true:=by simpa [isTwo,or_assoc] using hv
 rcases h with rfl | rfl | rfl | rfl | rfl | h
 · exact two_add a b w
 · exact two_sub a b w
 · exact two_mul a b w
 · exact two_div a b w ha hb
 · exact two_mod a b w ha hb
 · exact two_plain v a b w h
def OnePost (v:List UInt8) (a:Int) (w:World) (e:Ending) (w':World):Prop:=e=.returned (.tuple #[.int .i64 (oneOf v a),.bool true])∧w=w'
theorem not_i64 (a:Int) (h0 : -9223372036854775808≤a) (h1:a≤9223372036854775807):bits .xor .i64 (-1) a = -a-1:=by
 show IntKind.i64.wrap ((BitVec.ofInt 64 (-1) ^^^ BitVec.ofInt 64 a).toNat:Int)=_
 have e:BitVec.ofInt 64 (-1)=BitVec.allOnes 64:=by decide
 rw [e,BitVec.allOnes_xor,BitVec.toNat_not,ofInt_mod,wrap_s];split <;> omega
theorem one_negate (a:Int) (w:World) (ha:In a):Calls Tryz.prog 321 #[.string ⟨#[110,101,103,97,116,101]⟩,.int .i64 a] w (OnePost [110,101,103,97,116,101] a w):=by
 unfold In at ha
 go_enter Tryz.func321,Tryz.ntmps321
 go_wp2_with (first | (refine (flag_any _ _).mono ?_;rintro e w1 ⟨rfl,rfl⟩))
 all_goals
  go_ret2
  refine ⟨congrArg (fun n=>Ending.returned (.tuple #[.int .i64 n,.bool true])) ?_,rfl⟩
 all_goals first | rfl | (simp [oneOf,flagI, *];done) | (simp [oneOf,flagI, *];omega)
theorem one_invert (a:Int) (w:World) (ha:In a):Calls Tryz.prog 321 #[.string ⟨#[105,110,118,101,114,116]⟩,.int .i64 a] w (OnePost [105,110,118,101,114,116] a w):=by
 unfold In at ha
 go_enter Tryz.func321,Tryz.ntmps321
 go_wp2_with (first | (refine (flag_any _ _).mono ?_;rintro e w1 ⟨rfl,rfl⟩))
 all_goals
  go_ret2
  refine ⟨congrArg (fun n=>Ending.returned (.tuple #[.int .i64 n,.bool true])) ?_,rfl⟩
 all_goals first | exact not_i64 a ha.1 ha.2 | (simp [oneOf,flagI, *];done) | (simp [oneOf,flagI, *];omega)
theorem one_abs (a:Int) (w:World) (ha:In a):Calls Tryz.prog 321 #[.string ⟨#[97,98,115]⟩,.int .i64 a] w (OnePost [97,98,115] a w):=by
 unfold In at ha
 go_enter Tryz.func321,Tryz.ntmps321
 go_wp2_with (first | (refine (flag_any _ _).mono ?_;rintro e w1 ⟨rfl,rfl⟩))
 all_goals
  go_ret2
  refine ⟨congrArg (fun n=>Ending.returned (.tuple #[.int .i64 n,.bool true])) ?_,rfl⟩
 all_goals first | rfl | (simp [oneOf,flagI, *];done) | (simp [oneOf,flagI, *];omega)
theorem one_z (a:Int) (w:World) (ha:In a):Calls Tryz.prog 321 #[.string ⟨#[48,61]⟩,.int .i64 a] w (OnePost [48,61] a w):=by
 unfold In at ha
 go_enter Tryz.func321,Tryz.ntmps321
 go_wp2_with (first | (refine (flag_any _ _).mono ?_;rintro e w1 ⟨rfl,rfl⟩))
 all_goals
  go_ret2
  refine ⟨congrArg (fun n=>Ending.returned (.tuple #[.int .i64 n,.bool true])) ?_,rfl⟩
 all_goals first | rfl | (simp [oneOf,flagI, *];done) | (simp [oneOf,flagI, *];omega)
theorem one_neg (a:Int) (w:World) (ha:In a):Calls Tryz.prog 321 #[.string ⟨#[48,60]⟩,.int .i64 a] w (OnePost [48,60] a w):=by
 unfold In at ha
 go_enter Tryz.func321,Tryz.ntmps321
 go_wp2_with (first | (refine (flag_any _ _).mono ?_;rintro e w1 ⟨rfl,rfl⟩))
 all_goals
  go_ret2
  refine ⟨congrArg (fun n=>Ending.returned (.tuple #[.int .i64 n,.bool true])) ?_,rfl⟩
 all_goals first | rfl | (simp [oneOf,flagI, *];done) | (simp [oneOf,flagI, *];omega)
theorem one_inc (a:Int) (w:World) (ha:In a):Calls Tryz.prog 321 #[.string ⟨#[49,43]⟩,.int .i64 a] w (OnePost [49,43] a w):=by
 unfold In at ha
 go_enter Tryz.func321,Tryz.ntmps321
 go_wp2_with (first | (refine (flag_any _ _).mono ?_;rintro e w1 ⟨rfl,rfl⟩))
 all_goals
  go_ret2
  refine ⟨congrArg (fun n=>Ending.returned (.tuple #[.int .i64 n,.bool true])) ?_,rfl⟩
 all_goals first | rfl | (simp [oneOf,flagI, *];done) | (simp [oneOf,flagI, *];omega)
theorem one_chp (a:Int) (w:World) (ha:In a):Calls Tryz.prog 321 #[.string ⟨#[99,104,97,114,43]⟩,.int .i64 a] w (OnePost [99,104,97,114,43] a w):=by
 unfold In at ha
 go_enter Tryz.func321,Tryz.ntmps321
 go_wp2_with (first | (refine (flag_any _ _).mono ?_;rintro e w1 ⟨rfl,rfl⟩))
 all_goals
  go_ret2
  refine ⟨congrArg (fun n=>Ending.returned (.tuple #[.int .i64 n,.bool true])) ?_,rfl⟩
 all_goals first | rfl | (simp [oneOf,flagI, *];done) | (simp [oneOf,flagI, *];omega)
theorem one_dec (a:Int) (w:World) (ha:In a):Calls Tryz.prog 321 #[.string ⟨#[49,45]⟩,.int .i64 a] w (OnePost [49,45] a w):=by
 unfold In at ha
 go_enter Tryz.func321,Tryz.ntmps321
 go_wp2_with (first | (refine (flag_any _ _).mono ?_;rintro e w1 ⟨rfl,rfl⟩))
 all_goals
  go_ret2
  refine ⟨congrArg (fun n=>Ending.returned (.tuple #[.int .i64 n,.bool true])) ?_,rfl⟩
 all_goals first | rfl | (simp [oneOf,flagI, *];done) | (simp [oneOf,flagI, *];omega)
theorem one_dbl (a:Int) (w:World) (ha:In a):Calls Tryz.prog 321 #[.string ⟨#[50,42]⟩,.int .i64 a] w (OnePost [50,42] a w):=by
 unfold In at ha
 go_enter Tryz.func321,Tryz.ntmps321
 go_wp2_with (first | (refine (flag_any _ _).mono ?_;rintro e w1 ⟨rfl,rfl⟩))
 all_goals
  go_ret2
  refine ⟨congrArg (fun n=>Ending.returned (.tuple #[.int .i64 n,.bool true])) ?_,rfl⟩
 all_goals first | rfl | (simp [oneOf,flagI, *];done) | (simp [oneOf,flagI, *];omega)
theorem one_half (a:Int) (w:World) (ha:In a):Calls Tryz.prog 321 #[.string ⟨#[50,47]⟩,.int .i64 a] w (OnePost [50,47] a w):=by
 unfold In at ha
 go_enter Tryz.func321,Tryz.ntmps321
 go_wp2_with (first | (refine (flag_any _ _).mono ?_;rintro e w1 ⟨rfl,rfl⟩))
 all_goals
  go_ret2
  refine ⟨congrArg (fun n=>Ending.returned (.tuple #[.int .i64 n,.bool true])) ?_,rfl⟩
 all_goals first | rfl | (simp [oneOf,flagI, *];done) | (simp [oneOf,flagI, *];omega)
theorem one_cells (a:Int) (w:World) (ha:In a):Calls Tryz.prog 321 #[.string ⟨#[99,101,108,108,115]⟩,.int .i64 a] w (OnePost [99,101,108,108,115] a w):=by
 unfold In at ha
 go_enter Tryz.func321,Tryz.ntmps321
 go_wp2_with (first | (refine (flag_any _ _).mono ?_;rintro e w1 ⟨rfl,rfl⟩))
 all_goals
  go_ret2
  refine ⟨congrArg (fun n=>Ending.returned (.tuple #[.int .i64 n,.bool true])) ?_,rfl⟩
 all_goals first | rfl | (simp [oneOf,flagI, *];done) | (simp [oneOf,flagI, *];omega)
theorem one_cellp (a:Int) (w:World) (ha:In a):Calls Tryz.prog 321 #[.string ⟨#[99,101,108,108,43]⟩,.int .i64 a] w (OnePost [99,101,108,108,43] a w):=by
 unfold In at ha
 go_enter Tryz.func321,Tryz.ntmps321
 go_wp2_with (first | (refine (flag_any _ _).mono ?_;rintro e w1 ⟨rfl,rfl⟩))
 all_goals
  go_ret2
  refine ⟨congrArg (fun n=>Ending.returned (.tuple #[.int .i64 n,.bool true])) ?_,rfl⟩
 all_goals first | rfl | (simp [oneOf,flagI, *];done) | (simp [oneOf,flagI, *];omega)
theorem one_aligned (a:Int) (w:World) (ha:In a):Calls Tryz.prog 321 #[.string ⟨#[97,108,105,103,110,101,100]⟩,.int .i64 a] w (OnePost [97,108,105,103,110,101,100] a w):=by
 unfold In at ha
 go_enter Tryz.func321,Tryz.ntmps321
 go_wp2_with (first | (refine (flag_any _ _).mono ?_;rintro e w1 ⟨rfl,rfl⟩))
 all_goals
  go_ret2
  refine ⟨congrArg (fun n=>Ending.returned (.tuple #[.int .i64 n,.bool true])) ?_,rfl⟩
 have e:wrap64 (wrap64 (a+8)-1)=wrap64 (a+7):=by unfold wrap64;omega
 rw [e];rfl
theorem one_any (v:List UInt8) (a:Int) (w:World) (ha:In a) (hv:isOne v=true):Calls Tryz.prog 321 #[.string ⟨v.toArray⟩,.int .i64 a] w (OnePost v a w):=by
 have h:v=[110,101,103,97,116,101]∨v=[105,110,118,101,114,116]∨v=[97,98,115]∨v=[48,61]∨v=[48,60]∨v=[49,43]∨v=[99,104,97,114,43]∨v=[49,45]∨v=[50,42]∨v=[50,47]∨v=[99,101,108,108,115]∨v=[99,101,108,108,43]∨v=[97,108,105,103,110,101,100]:=by simpa [isOne,or_assoc] using hv
 rcases h with rfl | rfl | rfl | rfl | rfl | rfl | rfl | rfl | rfl | rfl | rfl | rfl | rfl
 · exact one_negate a w ha
 · exact one_invert a w ha
 · exact one_abs a w ha
 · exact one_z a w ha
 · exact one_neg a w ha
 · exact one_inc a w ha
 · exact one_chp a w ha
 · exact one_dec a w ha
 · exact one_dbl a w ha
 · exact one_half a w ha
 · exact one_cells a w ha
 · exact one_cellp a w ha
 · exact one_aligned a w ha
end Go.Proofs.Ari
namespace Go.Proofs.Shed
open Go.RowKit Go.Proofs.Cod
namespace VM
def FP (g:VM→VM × Int):Prop:=∀ v,(g v).1.fuel=v.fuel
def FL (g:VM→List Int→VM × Int):Prop:=∀ v l,(g v l).1.fuel=v.fuel
def FG (g:VM→VM × Int × Int):Prop:=∀ v,(g v).1.fuel=v.fuel
theorem FP.ite {c:Prop} [Decidable c] {a b:VM→VM × Int} (ha:FP a) (hb:FP b):FP (if c then a else b):=by split;exact ha;exact hb
theorem FL.ite {c:Prop} [Decidable c] {a b:VM→List Int→VM × Int} (ha:FL a) (hb:FL b):FL (if c then a else b):=by split;exact ha;exact hb
theorem FG.ite {c:Prop} [Decidable c] {a b:VM→VM × Int × Int} (ha:FG a) (hb:FG b):FG (if c then a else b):=by split;exact ha;exact hb
theorem method_fuel (v:VM) (xt o:Int):(v.method xt o).1.fuel=v.fuel:=by unfold method;(repeat' split);all_goals rfl
theorem definition_fuel (v:VM) (xt:Int):(v.definition xt).1.fuel=v.fuel:=by unfold definition;(repeat' split);all_goals rfl
theorem send_fuel (v:VM) (a sel:Int):(v.send a sel).1.fuel=v.fuel:=by
 unfold send;split
 · rfl
 · exact method_fuel _ _ _
theorem loop_fuel (v:VM) (n:Int):(v.loop n).1.fuel=v.fuel:=by unfold loop;simp only [];(repeat' split);all_goals rfl
theorem shown_fuel (v:VM) (t:List UInt8):(v.shown t).1.fuel=v.fuel:=by unfold shown;split;all_goals rfl
theorem caught_fuel (v:VM):v.caughtF.1.fuel=v.fuel:=by unfold caughtF;simp only [];split;all_goals rfl
theorem new_fuel (v:VM) (c:Int):(v.newF c).1.fuel=v.fuel:=by unfold newF;simp only [];(repeat' split);all_goals rfl
theorem throw_fuel (v:VM) (e:Int):(v.throw e).1.fuel=v.fuel:=by unfold throw;simp only [];(repeat' split);all_goals rfl
theorem outcome_fuel (q:VM × Int):(outcome q).1.fuel=q.1.fuel:=by unfold outcome;split;rfl;exact throw_fuel _ _
theorem doF_fuel (en:VM→Int→VM × Int) (he:∀ (v:VM) xt,(en v xt).1.fuel=v.fuel) (f:Nat):FL (doF en f):=by
 unfold doF
 repeat' apply FL.ite
 all_goals
  intro v l
  first
  | rfl
  | exact loop_fuel _ _
  | exact shown_fuel _ _
  | exact new_fuel _ _
  | exact he _ _
  | (unfold one1;dsimp only;(repeat' split);all_goals first | rfl | exact he _ _ | exact send_fuel _ _ _ | exact method_fuel _ _ _)
  | (unfold two2;dsimp only;(repeat' split);all_goals rfl)
theorem getF_fuel (f:Nat):FG (getF f):=by
 unfold getF
 repeat' apply FG.ite
 all_goals
  intro v
  first
  | rfl
  | (dsimp only;split <;> rfl)
theorem plainF_fuel (f:Nat):FP (plainF f):=by
 unfold plainF
 repeat' apply FP.ite
 all_goals
  intro v
  first
  | rfl
  | exact loop_fuel _ _
  | exact caught_fuel _
  | (unfold unloop;split <;> rfl)
  | (dsimp only;(repeat' split);all_goals first | rfl | exact method_fuel _ _ _)
theorem withN_fuel (n:Nat) (f:VM→List Int→VM × Int) (h:FL f):FP (withN n f):=by
 intro v;unfold withN;split
 · rfl
 · rw [h]
theorem den_fuel (en:VM→Int→VM × Int) (he:∀ v xt,(en v xt).1.fuel=v.fuel) (kd:Pk):FP (den en kd):=by
 cases kd with
 | plain f=>exact plainF_fuel f
 | with_ n f=>exact withN_fuel _ _ (doF_fuel en he f)
 | push f =>
  intro v
  show (pushOf (getF f) v).1.fuel=v.fuel
  unfold pushOf;split
  · exact getF_fuel f v
  · exact getF_fuel f v
 | moves n l=>exact withN_fuel _ _ (fun v l=>rfl)
 | look f=>exact withN_fuel _ _ (fun v l=>by unfold lookOf;split <;> rfl)
 | two op=>exact withN_fuel _ _ (fun v l=>by unfold arith;split <;> rfl)
 | one op=>exact withN_fuel _ _ (fun v l=>by unfold arith;split <;> rfl)
theorem enterF_fuel (en:VM→Int→VM × Int) (he:∀ v xt,(en v xt).1.fuel=v.fuel) (v:VM) (xt:Int):(enterF en v xt).1.fuel=v.fuel:=by
 unfold enterF;dsimp only
 repeat' split
 all_goals first
  | rfl
  | exact definition_fuel _ _
  | exact den_fuel en he _ _
theorem enterN_fuel:∀ (k:Nat) (v:VM) (xt:Int),(enterN k v xt).1.fuel=v.fuel
 | 0,_,_=>rfl
 | k+1,v,xt=>enterF_fuel _ (enterN_fuel k) v xt
theorem enter_fuel (v:VM) (xt:Int):(v.enter xt).1.fuel=v.fuel:=enterN_fuel _ _ _
theorem step_fuel (v:VM) (xt:Int):(v.step xt).1.fuel=if v.fuel≤0 then v.fuel else v.fuel-1:=by
 unfold step;split
 · rfl
 · rw [outcome_fuel,enter_fuel]
theorem astray_fuel (v:VM) (e:Int):(v.astray e).1.fuel=if v.fuel≤0 then v.fuel else v.fuel-1:=by
 unfold astray;split
 · rfl
 · rw [outcome_fuel]
theorem round_fuel (v:VM):v.round.1.fuel=if v.fuel≤0 then v.fuel else v.fuel-1:=by
 unfold round;split
 · rw [step_fuel];rfl
 · rw [astray_fuel];rfl
theorem round_dry (v:VM) (h:v.fuel≤0):v.round.2 = -2053:=by
 unfold round step astray;split
 · rw [if_pos (show v.inline.1.fuel≤0 from h)]
 · rw [if_pos (show v.inline.1.fuel≤0 from h)]
end VM
end Go.Proofs.Shed
