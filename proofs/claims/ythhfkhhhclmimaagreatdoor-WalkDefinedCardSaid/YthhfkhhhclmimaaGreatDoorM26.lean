/- A part of WalkG. No condition. -/
import Derived.Test.YthhfkhhhclmimaaGreatDoorM04
import Derived.Test.YthhfkhhhclmimaaGreatDoorM22
set_option linter.unusedVariables false
set_option linter.unusedSimpArgs false
open Go.Proofs.Tryz
set_option maxRecDepth 10000
set_option maxHeartbeats 4000000
namespace Go.Proofs.dS
open Go Go.RowKit Go.Proofs.K
def gN(L:List UInt8)(pad:List Value)(i:Nat):List Value:=((L.take i).map mw++L.drop i).map (fun b=>Value.int .u8 (b.toNat:Int))++pad
theorem Du(L:List UInt8)(a:List Value)(i:Nat):(gN L a i).length=L.length+a.length:=by
 simp[gN];omega
theorem vg(L:List UInt8)(b:List Value)(i:Nat)(h:i<L.length):(gN L b i)[i]?=some (.int .u8 (L[i].toNat:Int)):=by
 have a:((L.take i).map mw).length=i:=by simp;omega
 rw[gN,List.getElem?_append_left (by simp;omega),List.getElem?_map,List.getElem?_append_right (by omega),a,Nat.sub_self,List.getElem?_drop,Nat.add_zero,List.getElem?_eq_getElem h];rfl
theorem vh(L:List UInt8)(a:List Value)(i:Nat)(h:i<L.length):(gN L a i).set i (.int .u8 ((mw L[i]).toNat:Int))=gN L a (i+1):=by
 have d:((L.take i).map mw).length=i:=by simp;omega
 have c:L.take (i+1)=L.take i++[L[i]]:=by rw[List.take_succ_eq_append_getElem h]
 rw[gN,gN,List.set_append_left _ _ (by simp;omega),c,List.map_append,List.map_append,List.map_append,List.map_append,List.set_append_right _ _ (by simp;omega)];rw[List.drop_eq_getElem_cons h];simp;rw[show i-min i L.length=0 by omega];rw[List.drop_eq_getElem_cons (l:=L.map fun b=>Value.int .u8 (b.toNat:Int)) (by simpa using h)];rfl
theorem AN(L:List UInt8)(a:List Value)(i:Nat)(h:i<L.length)(e:mw L[i]=L[i]):gN L a (i+1)=gN L a i:=by
 have c:=vg L a i h;rw[<- vh L a i h,e];obtain⟨d,b⟩:=List.getElem?_eq_some_iff.1 c;rw[<- b,List.set_getElem_self]
theorem AO{c:UInt8}(h:65<=c.toNat/\c.toNat<=90):((mw c).toNat:Int)=(c.toNat:Int)+32:=by
 unfold mw;rw[if_pos h,UInt8.toNat_ofNat'];omega
theorem sA{c:UInt8}(h:¬ (65<=c.toNat/\c.toNat<=90)):mw c=c:=by
 unfold mw;rw[if_neg h]
theorem iC(w:World)(L:List UInt8)(Q:L.length<=4194304) :
 Calls prog 94 #[S_ L] w fun e w'=>e=.returned (S_ (cG L))/\K_ w w':=by
 have d:=run_bytes_of_string (P:=prog) w 9 143 5 ⟨L.toArray⟩ underlying9 underlying143 underlying5;obtain⟨a,q⟩:∃ a:List Value,bytesRow ⟨L.toArray⟩ (grownCap w (⟨L.toArray⟩:ByteArray).size 0 5)=(gN L a 0).toArray:=by
  refine⟨List.replicate (grownCap w (⟨L.toArray⟩:ByteArray).size 0 5-(⟨L.toArray⟩:ByteArray).size) (.int .u8 0),?_⟩;unfold bytesRow gN;apply Array.ext';simp
 rw[q]at d;generalize grownCap w (⟨L.toArray⟩:ByteArray).size 0 5=C at d q;clear q;rw[show(gN L a 0).toArray.size=L.length+a.length by rw[List.size_toArray,Du]]at d;have A:(⟨L.toArray⟩:ByteArray).size=L.length:=by simp[ByteArray.size]
 rw[A]at d;have n:=cx w.drew (.cells (gN L a 0).toArray 5 (L.length+a.length,L.length+a.length+1));have s:=(fw w).trans (dR w.drew (.cells (gN L a 0).toArray 5 (L.length+a.length,L.length+a.length+1)));generalize F:w.drew.alloc (.cells (gN L a 0).toArray 5 (L.length+a.length,L.length+a.length+1))=W at d n s;have B:Hid (W.heap[w.heap.size]?=some (.cells (gN L a 0).toArray 5 (L.length+a.length,L.length+a.length+1))):=h_ n;clear n F A;go_enter func94,ntmps94;go_wp2_with fail
 go_loopw [10] (fun r wr=>∃ i:Nat,r=I_ i/\i<=L.length/\wr.heap[w.heap.size]?=some (.cells (gN L a i).toArray 5 (L.length+a.length,L.length+a.length+1))/\K_ w wr) (fun r _=>L.length-(intOf r).toNat)
 case atStart=>exact⟨0,rfl,Nat.zero_le _,B.out,s⟩
 case round =>
  obtain⟨i,rfl,O,b,f⟩:=hrel;clear d;by_cases p:i<L.length
  . have t:C_ wr w.heap.size i=some (.int .u8 (L[i].toNat:Int)):=by
     refine cp b ?_;rw[List.getElem?_toArray];exact vg L a i p
    have M:wr.frozen? ⟨w.heap.size,i,none⟩=false:=by
     unfold World.frozen?;simp only[b];simp;omega
    have l:=vh L a i p;have o:=AN L a i p;have z:=(L[i]).toNat_lt;by_cases h:65<=L[i].toNat/\L[i].toNat<=90
    . have k:=AO h
      rw[k]at l;generalize L[i].toNat=x at t h l z;have R:IntKind.u8.wrap ((x:Int)+97)=(x:Int)+97:=by unfold IntKind.wrap;simp[IntKind.bits,IntKind.signed];omega
      have T:IntKind.u8.wrap ((x:Int)+97-65)=(x:Int)+32:=by unfold IntKind.wrap;simp[IntKind.bits,IntKind.signed];omega
      have u:decide ((65:Int)<=(x:Int))=true:=decide_eq_true (by omega);have D:decide ((x:Int)<=90)=true:=decide_eq_true (by omega);have m:Hid ((wr.setCell ⟨w.heap.size,i,none⟩ (.int .u8 ((x:Int)+32))).heap[w.heap.size]?=some (.cells (gN L a (i+1)).toArray 5 (L.length+a.length,L.length+a.length+1))):=by
       refine h_ ?_;rw[cz b,<- l,List.setIfInBounds_toArray]
      have c:=(f.dh (cq.setCell (S:=fun g=>g=w.heap.size) wr ⟨w.heap.size,i,none⟩ (.int .u8 ((x:Int)+32)) (fun _=>rfl)) (fun j v e=>by omega));have J:(0:Int)<=(i:Int):=by omega
      clear l o b f h k;go_wp2;go_roundw;case rel=>exact⟨i+1,by go_num,by omega,m,c⟩
      case measure=>simp[intOf];omega
    . have k:=sA h
      have y:=o k;have m:=(show wr.heap[w.heap.size]?=some (.cells (gN L a (i+1)).toArray 5 (L.length+a.length,L.length+a.length+1)) by rw[y];exact b);have c:=f;generalize L[i].toNat=x at t h z;have J:(0:Int)<=(i:Int):=by omega
      have H:x<65\/(65<=x/\90<x):=by omega
      clear l o b f h k y;rcases H with E | ⟨E,N⟩
      . have u:decide ((65:Int)<=(x:Int))=false:=decide_eq_false (by omega)
        go_wp2;go_roundw;case rel=>exact⟨i+1,by go_num,by omega,m,c⟩
        case measure=>simp[intOf];omega
      . have u:decide ((65:Int)<=(x:Int))=true:=decide_eq_true (by omega)
        have D:decide ((x:Int)<=90)=false:=decide_eq_false (by omega);go_wp2;go_roundw;case rel=>exact⟨i+1,by go_num,by omega,m,c⟩
        case measure=>simp[intOf];omega
  . have I:i=L.length:=by omega
    subst I
    have G:=run_convert_bytes_back (P:=prog) wr 143 9 5 ⟨w.heap.size,0,none⟩ C (cG L) underlying143 underlying5 underlying9 (fun j v=>by
     have K:j<L.length:=by simpa[cG] using v
     rw[Addr.add_lit,Nat.zero_add];refine cp b ?_;rw[List.getElem?_toArray];unfold gN;rw[List.take_length,List.drop_length,List.append_nil,List.getElem?_append_left (by simp;omega),List.getElem?_map,List.getElem?_map,List.getElem?_eq_getElem K]
     simp[cG])
    rw[show(cG L).length=L.length by simp[cG]]at G;have c:=f;clear b f;go_wp2;go_ret;exact⟨rfl,c⟩
end Go.Proofs.dS
