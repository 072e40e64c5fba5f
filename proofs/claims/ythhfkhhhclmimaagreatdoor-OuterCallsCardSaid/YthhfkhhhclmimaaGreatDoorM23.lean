/- Of CallsG: WIntern. No condition. -/
import Derived.Test.YthhfkhhhclmimaaGreatDoorM03
import Derived.Test.YthhfkhhhclmimaaGreatDoorM20
set_option linter.unusedVariables false
set_option linter.unusedSimpArgs false
set_option maxRecDepth 10000
set_option maxHeartbeats 4000000
namespace Go.Proofs.Shed
open Go Go.RowKit Go.Proofs.K
def lowRow (L:List UInt8) (pad:List Value) (i:Nat):List Value:=((L.take i).map lowB++L.drop i).map (fun b=>Value.int .u8 (b.toNat:Int))++pad
theorem lowRow_len (L:List UInt8) (pad:List Value) (i:Nat):(lowRow L pad i).length=L.length+pad.length:=by
 simp [lowRow];omega
theorem lowRow_get (L:List UInt8) (pad:List Value) (i:Nat) (h:i<L.length):(lowRow L pad i)[i]?=some (.int .u8 (L[i].toNat:Int)):=by
 have h1:((L.take i).map lowB).length=i:=by simp;omega
 rw [lowRow,List.getElem?_append_left (by simp;omega),List.getElem?_map,List.getElem?_append_right (by omega),h1,Nat.sub_self,List.getElem?_drop,Nat.add_zero,List.getElem?_eq_getElem h]
 rfl
theorem lowRow_set (L:List UInt8) (pad:List Value) (i:Nat) (h:i<L.length):(lowRow L pad i).set i (.int .u8 ((lowB L[i]).toNat:Int))=lowRow L pad (i+1):=by
 have h1:((L.take i).map lowB).length=i:=by simp;omega
 have h2:L.take (i+1)=L.take i++[L[i]]:=by rw [List.take_succ_eq_append_getElem h]
 rw [lowRow,lowRow,List.set_append_left _ _ (by simp;omega),h2,List.map_append,List.map_append,List.map_append,List.map_append,List.set_append_right _ _ (by simp;omega)]
 rw [List.drop_eq_getElem_cons h];simp
 rw [show i-min i L.length=0 by omega]
 rw [List.drop_eq_getElem_cons (l:=L.map fun b=>Value.int .u8 (b.toNat:Int)) (by simpa using h)]
 rfl
theorem lowRow_keep (L:List UInt8) (pad:List Value) (i:Nat) (h:i<L.length) (e:lowB L[i]=L[i]):lowRow L pad (i+1)=lowRow L pad i:=by
 have hg:=lowRow_get L pad i h;rw [← lowRow_set L pad i h,e];obtain ⟨h1,h2⟩:=List.getElem?_eq_some_iff.1 hg;rw [← h2,List.set_getElem_self]
theorem lowB_hit {c:UInt8} (h:65≤c.toNat∧c.toNat≤90):((lowB c).toNat:Int)=(c.toNat:Int)+32:=by
 unfold lowB;rw [if_pos h,UInt8.toNat_ofNat'];omega
theorem lowB_miss {c:UInt8} (h:¬ (65≤c.toNat∧c.toNat≤90)):lowB c=c:=by
 unfold lowB;rw [if_neg h]
theorem intern_lower (w:World) (L:List UInt8) (hl:L.length≤4194304) :
 Calls Tryz.prog 94 #[.string ⟨L.toArray⟩] w fun e w'=>e=.returned (.string ⟨(lower L).toArray⟩)∧Keeps (fun _=>False) w w':=by
 have hcv:=run_bytes_of_string (P:=Tryz.prog) w 9 143 5 ⟨L.toArray⟩ Tryz.underlying9 Tryz.underlying143 Tryz.underlying5
 obtain ⟨pad,hpad⟩:∃ pad:List Value,bytesRow ⟨L.toArray⟩ (grownCap w (⟨L.toArray⟩:ByteArray).size 0 5)=(lowRow L pad 0).toArray:=by
  refine ⟨List.replicate (grownCap w (⟨L.toArray⟩:ByteArray).size 0 5-(⟨L.toArray⟩:ByteArray).size) (.int .u8 0),?_⟩;unfold bytesRow lowRow;apply Array.ext'
  simp
 rw [hpad] at hcv;generalize grownCap w (⟨L.toArray⟩:ByteArray).size 0 5=cap at hcv hpad;clear hpad;rw [show (lowRow L pad 0).toArray.size=L.length+pad.length by rw [List.size_toArray,lowRow_len]] at hcv
 have hsz:(⟨L.toArray⟩:ByteArray).size=L.length:=by simp [ByteArray.size]
 rw [hsz] at hcv;have hA:=halloc_at w.drew (.cells (lowRow L pad 0).toArray 5 (L.length+pad.length,L.length+pad.length+1));have KA:=h_ ((kd_ w).trans (ka_ w.drew (.cells (lowRow L pad 0).toArray 5 (L.length+pad.length,L.length+pad.length+1))));generalize hW:w.drew.alloc (.cells (lowRow L pad 0).toArray 5 (L.length+pad.length,L.length+pad.length+1))=W at hcv hA KA;have HA:Hid (W.heap[w.heap.size]?=some (.cells (lowRow L pad 0).toArray 5 (L.length+pad.length,L.length+pad.length+1))):=h_ hA;clear hA hW hsz
 go_enter Tryz.func94,Tryz.ntmps94
 go_wp2_with fail
 go_loopw [10] (fun iv wr=>∃ i:Nat,iv=.int .i64 i∧i≤L.length∧wr.heap[w.heap.size]?=some (.cells (lowRow L pad i).toArray 5 (L.length+pad.length,L.length+pad.length+1))∧Keeps (fun _=>False) w wr) (fun iv _=>L.length-(intOf iv).toNat)
 case atStart=>exact ⟨0,rfl,Nat.zero_le _,HA.out,KA.out⟩
 case round =>
  obtain ⟨i,rfl,hi,hr,hk⟩:=hrel;clear hcv;by_cases hlt:i<L.length
  · have c0:wr.cell? ⟨w.heap.size,i,none⟩=some (.int .u8 (L[i].toNat:Int)):=by
     refine cell_of hr ?_;rw [List.getElem?_toArray];exact lowRow_get L pad i hlt
    have f0:wr.frozen? ⟨w.heap.size,i,none⟩=false:=by
     unfold World.frozen?;simp only [hr]
     simp
     omega
    have hst:=lowRow_set L pad i hlt;have hkp:=lowRow_keep L pad i hlt;have hlo:=(L[i]).toNat_lt;by_cases hup:65≤L[i].toNat∧L[i].toNat≤90
    · have e2:=lowB_hit hup
      rw [e2] at hst;generalize L[i].toNat=x at c0 hup hst hlo;have hw1:IntKind.u8.wrap ((x:Int)+97)=(x:Int)+97:=by unfold IntKind.wrap;simp [IntKind.bits,IntKind.signed];omega
      have hw2:IntKind.u8.wrap ((x:Int)+97-65)=(x:Int)+32:=by unfold IntKind.wrap;simp [IntKind.bits,IntKind.signed];omega
      have d1:decide ((65:Int)≤(x:Int))=true:=decide_eq_true (by omega)
      have d2:decide ((x:Int)≤90)=true:=decide_eq_true (by omega)
      have HR:Hid ((wr.setCell ⟨w.heap.size,i,none⟩ (.int .u8 ((x:Int)+32))).heap[w.heap.size]?=some (.cells (lowRow L pad (i+1)).toArray 5 (L.length+pad.length,L.length+pad.length+1))):=by
       refine h_ ?_;rw [hset_same hr,← hst,List.setIfInBounds_toArray]
      have HK:=h_ (hk.trans' (Keeps.setCell (S:=fun g=>g=w.heap.size) wr ⟨w.heap.size,i,none⟩ (.int .u8 ((x:Int)+32)) (fun _=>rfl)) (fun j hj e=>by omega))
      have hi0:(0:Int)≤(i:Int):=by omega
      clear hst hkp hr hk hup e2;go_wp2_with fail
      go_roundw
      case rel=>exact ⟨i+1,by go_num,by omega,HR.out,HK.out⟩
      case measure=>simp [intOf];omega
    · have e2:=lowB_miss hup
      have hkk:=hkp e2;have HR:=h_ (show wr.heap[w.heap.size]?=some (.cells (lowRow L pad (i+1)).toArray 5 (L.length+pad.length,L.length+pad.length+1)) by rw [hkk];exact hr)
      have HK:=h_ hk;generalize L[i].toNat=x at c0 hup hlo;have hi0:(0:Int)≤(i:Int):=by omega
      have hcase:x<65∨(65≤x∧90<x):=by omega
      clear hst hkp hr hk hup e2 hkk
      rcases hcase with h1 | ⟨h1,h2⟩
      · have d1:decide ((65:Int)≤(x:Int))=false:=decide_eq_false (by omega)
        go_wp2_with fail
        go_roundw
        case rel=>exact ⟨i+1,by go_num,by omega,HR.out,HK.out⟩
        case measure=>simp [intOf];omega
      · have d1:decide ((65:Int)≤(x:Int))=true:=decide_eq_true (by omega)
        have d2:decide ((x:Int)≤90)=false:=decide_eq_false (by omega)
        go_wp2_with fail
        go_roundw
        case rel=>exact ⟨i+1,by go_num,by omega,HR.out,HK.out⟩
        case measure=>simp [intOf];omega
  · have hge:i=L.length:=by omega
    subst hge
    have hb:=run_convert_bytes_back (P:=Tryz.prog) wr 143 9 5 ⟨w.heap.size,0,none⟩ cap (lower L) Tryz.underlying143 Tryz.underlying5 Tryz.underlying9 (fun j hj=>by
     have hj':j<L.length:=by simpa [lower] using hj
     rw [Addr.add_lit,Nat.zero_add];refine cell_of hr ?_;rw [List.getElem?_toArray];unfold lowRow;rw [List.take_length,List.drop_length,List.append_nil,List.getElem?_append_left (by simp;omega),List.getElem?_map,List.getElem?_map,List.getElem?_eq_getElem hj']
     simp [lower])
    rw [show (lower L).length=L.length by simp [lower]] at hb
    have HK:=h_ hk;clear hr hk;go_wp2_with fail;go_ret
    exact ⟨rfl,HK.out⟩
end Go.Proofs.Shed
