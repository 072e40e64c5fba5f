/- A part of WalkG. No condition. -/
import Derived.Test.YthhfkhhhclmimaaGreatDoorM04
import Derived.Test.YthhfkhhhclmimaaGreatDoorM13
set_option linter.unusedVariables false
set_option linter.unusedSimpArgs false
open Go.Proofs.Tryz
set_option maxRecDepth 10000
set_option maxHeartbeats 2000000
namespace Go.Proofs.dS
open Go Go.RowKit Go.Proofs.K
structure wG(w:World)(h b bb:Nat)(m:Mem)(lo hi:Int):Prop where
 head:w.heap[h]?=some (.cells #[cD b,I_ lo,I_ hi] 298 (0,0))
 mem:dY w b bb m
 yF:h≠b
 sT:h≠bb
 Rm:0<=lo
 lt:lo<=hi
 uE:hi<=m.size
theorem wG.ct{w w':World}{h b a:Nat}{m:Mem}{d c:Int}(H:wG w h b a m d c){S:Nat->Prop}(k:cq S w w')(e:¬ S h)(f:¬ S b)(g:¬ S a):wG w' h b a m d c :=
 ⟨k.heap H.head e,H.mem.ct k f g,H.yF,H.sT,H.Rm,H.lt,H.uE⟩
theorem wG.with{w w':World}{h b a:Nat}{m m':Mem}{d c:Int}(H:wG w h b a m d c)(e:dY w' b a m')(f:m'.size=m.size)(k:cq (fun j=>j=a) w w'):wG w' h b a m' d c :=
 ⟨k.heap H.head H.sT,e,H.yF,H.sT,H.Rm,H.lt,by rw[f];exact H.uE⟩
theorem wG.c0{w:World}{h b a:Nat}{m:Mem}{d c:Int}(H:wG w h b a m d c):w.cell? ⟨h,0,none⟩=some (cD b):=cp H.head rfl
def tz.val(x:tz):Value:=.agg #[I_ x.cM,I_ x.size,.bool x.used]
theorem rq(w:World)(h b f:Nat)(m:Mem)(E C:Int)(x:tz)(H:wG w h b f m E C)(A : -4611686018427387904<=x.size)(B:x.size<=4611686018427387904) :
 Calls prog 209 #[cD h,x.val] w (gV b f (Heap.put m x) w):=by
 obtain⟨a,c,l⟩:=x;have v:=H.mem;have z:=H.c0;have D:h<w.heap.size:=cA H.head;clear H;have o:=cq.alloc (fun k=>k=f) w (.cells #[I_ a,I_ c,.bool l] 301);have n:=v.dC (.cells #[I_ a,I_ c,.bool l] 301);have u:=cp (i:=0) (cx w (.cells #[I_ a,I_ c,.bool l] 301)) rfl;have t:(w.alloc (.cells #[I_ a,I_ c,.bool l] 301)).cell? ⟨h,0,none⟩=some (cD b):=(World.cell?_alloc_lt _ _ _ D).trans z;unfold tz.val;simp only at A B;cases l with
 | true =>
  have g:=fun w H=>ed w b f m a (c+1) H;have d:Hid (Heap.put m ⟨a,c,true⟩=m.setCell a (c+1)):=rfl;generalize Heap.put m ⟨a,c,true⟩=r at d |-;rw[<- d.out]at g;clear d;go_enter func209,ntmps209;go_wp2_with fail;generalize w.alloc (.cells #[I_ a,I_ c,.bool true] 301)=y at n o u t |-;go_still_tail 7,(by kernel_rfl);change wpList _ _ _ _ _ (World.drew _);go_wp2_with fail;refine(g _ n.drew).mono ?_;rintro e F q;obtain⟨rfl,s,j⟩:=q.drew;have p:=o.trans j;clear j;go_wp2;go_ret;exact⟨rfl,s,p⟩
 | false =>
  have g:=fun w H=>ed w b f m a c H;have d:Hid (Heap.put m ⟨a,c,false⟩=m.setCell a c):=rfl;generalize Heap.put m ⟨a,c,false⟩=r at d |-;rw[<- d.out]at g;clear d;go_enter func209,ntmps209;go_wp2_with fail;generalize w.alloc (.cells #[I_ a,I_ c,.bool false] 301)=y at n o u t |-;go_still_tail 7,(by kernel_rfl);change wpList _ _ _ _ _ (World.drew _);go_wp2_with fail;refine(g _ n.drew).mono ?_;rintro e F q;obtain⟨rfl,s,j⟩:=q.drew;have p:=o.trans j;clear j;go_wp2;go_ret;exact⟨rfl,s,p⟩
set_option maxHeartbeats 8000000
namespace Heap
end Heap
def Hh(b bb:Nat)(r:Mem × Int)(lo hi:Int)(w:World)(e:Ending)(w':World):Prop :=
 ∃ h,e=.returned (.tuple #[cD h,I_ r.2])/\wG w' h b bb r.1 lo hi/\w.heap.size<=h/\cq (fun k=>k=bb) w w'
theorem KT(w:World)(b d:Nat)(m:Mem)(a c:Int)(H:dY w b d m)(n:0<=a)(h:a % 8=0)(i:c % 8=0)(o:c<=m.size)(v:16<=c-a) :
 Calls prog 123 #[cD b,I_ a,I_ c] w (Hh b d (Heap.put m ⟨a,c-a,false⟩) a c w):=by
 have x:=H.le;have y:=H.lt;have s:(a % 8 != 0)=false:=by simp[h]
 have t:(c % 8 != 0)=false:=by simp[i]
 have u:decide ((m.size:Int)<c)=false:=decide_eq_false (by omega);have j:wG (w.alloc (.cells #[cD b,I_ a,I_ c] 298)) w.heap.size b d m a c :=
  ⟨cx _ _,H.dC _,by omega,by omega,n,by omega,o⟩
 have f:=rq _ _ _ _ _ _ _ ⟨a,c-a,false⟩ j (by simp only;omega) (by simp only;omega);have p:=js w b d m H;have k:=Mem.cQ m a (c-a);have g:Hid ((Heap.put m ⟨a,c-a,false⟩).1.size=m.size):=k;unfold tz.val at f;simp only at f;generalize Heap.put m ⟨a,c-a,false⟩=r at f g |-;clear k H h i;go_enter func123,ntmps123;go_wp2_with fail;refine eD p ?_;go_wp2_with fail;refine f.mono ?_;rintro e z ⟨rfl,q,l⟩;go_wp2;go_ret2;exact⟨w.heap.size,rfl,j.with q g.out l,Nat.le_refl _,((cq.alloc _ _ _).trans l)⟩
end Go.Proofs.dS
