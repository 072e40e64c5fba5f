/- Of CallsG: WArith, WHeapD, WHeapE. No condition. -/
import Derived.Test.YthhfkhhhclmimaaGreatDoorM12
set_option linter.unusedVariables false
set_option linter.unusedSimpArgs false
set_option maxRecDepth 10000
set_option maxHeartbeats 4000000
namespace Go.Proofs.Ari
open Go Go.RowKit Go.Proofs.K
theorem flag_any (b:Bool) (w:World):Calls Tryz.prog 412 #[.bool b] w fun e w'=>e=.returned (.int .i64 (if b then -1 else 0))∧w=w':=by
 cases b
 all_goals
  go_enter Tryz.func412,Tryz.ntmps412
  go_wp2
  go_ret
  exact ⟨rfl,rfl⟩
theorem shift_one (w:World):Calls Tryz.prog 427 #[.int .i64 1] w fun e w'=>e=.returned (.int .u64 1)∧w=w':=by
 go_enter Tryz.func427,Tryz.ntmps427
 go_wp2
 go_ret
 exact ⟨rfl,rfl⟩
theorem divide_one (w:World):Calls Tryz.prog 410 #[.int .i64 1,.int .i64 1] w fun e w'=>e=.returned (.tuple #[.int .i64 1,.int .i64 0])∧Keeps (fun _=>False) w w':=by
 go_enter Tryz.func410,Tryz.ntmps410
 go_wp2_with fail
 go_region
 all_goals
  go_wp2_with fail;go_ret2
  exact ⟨rfl,Keeps.drew _ _⟩
def isPlain (v:List UInt8):Bool:=v == [97,110,100] || v == [111,114] || v == [120,111,114] || v == [108,115,104,105,102,116] || v == [114,115,104,105,102,116] || v == [61] || v == [60,62] || v == [60] || v == [62] || v == [117,60] || v == [109,105,110] || v == [109,97,120]
def isTwo (v:List UInt8):Bool:=v == [43] || v == [45] || v == [42] || v == [47] || v == [109,111,100] || isPlain v
def isOne (v:List UInt8):Bool:=v == [110,101,103,97,116,101] || v == [105,110,118,101,114,116] || v == [97,98,115] || v == [48,61] || v == [48,60] || v == [49,43] || v == [99,104,97,114,43] || v == [49,45] || v == [50,42] || v == [50,47] || v == [99,101,108,108,115] || v == [99,101,108,108,43] || v == [97,108,105,103,110,101,100]
theorem plain_one (v:List UInt8) (w:World):Calls Tryz.prog 411 #[.string ⟨v.toArray⟩,.int .i64 1,.int .i64 1] w fun e w'=>(∃ n:Int,e=.returned (.tuple #[.int .i64 n,.bool (isPlain v)]))∧w=w':=by
 go_enter Tryz.func411,Tryz.ntmps411
 go_wp2_with (first | (refine (shift_one _).mono ?_;rintro e w1 ⟨rfl,rfl⟩) | (refine (flag_any _ _).mono ?_;rintro e w1 ⟨rfl,rfl⟩))
 all_goals first
  | (exfalso;simp_all;done)
  | (go_ret2;rw [show isPlain v=true by simp [isPlain, *]];exact ⟨⟨_,rfl⟩,rfl⟩)
  | (go_ret2;rw [show isPlain v=false by simp [isPlain, *]];exact ⟨⟨_,rfl⟩,rfl⟩)
theorem two_one (v:List UInt8) (w:World):Calls Tryz.prog 319 #[.string ⟨v.toArray⟩,.int .i64 1,.int .i64 1] w fun e w'=>(∃ n c:Int,e=.returned (.tuple #[.int .i64 n,.int .i64 c,.bool (isTwo v)]))∧Keeps (fun _=>False) w w':=by
 have HP:=h_ fun w=>plain_one v w
 have HI:Hid (isTwo v=(v == [43] || v == [45] || v == [42] || v == [47] || v == [109,111,100] || isPlain v)):=rfl
 generalize isPlain v=p at HP HI;generalize isTwo v=q at HI ⊢
 go_enter Tryz.func319,Tryz.ntmps319
 go_wp2_with (first | (refine (divide_one _).mono ?_;rintro e w1 ⟨rfl,k1⟩;have K1:=h_ k1;clear k1) | (refine (HP.out _).mono ?_;rintro e w1 ⟨⟨n,rfl⟩,rfl⟩))
 all_goals first
  | (exfalso;simp_all;done)
  | (go_ret3;rw [show q=true by rw [HI.out];simp [*]];exact ⟨⟨_,_,rfl⟩,by first | exact K1.out | exact Keeps.refl _ _⟩)
  | (go_ret3;rw [show q=p by rw [HI.out];simp [*]];exact ⟨⟨_,_,rfl⟩,by first | exact K1.out | exact Keeps.refl _ _⟩)
theorem one_one (v:List UInt8) (w:World):Calls Tryz.prog 321 #[.string ⟨v.toArray⟩,.int .i64 1] w fun e w'=>(∃ n:Int,e=.returned (.tuple #[.int .i64 n,.bool (isOne v)]))∧w=w':=by
 go_enter Tryz.func321,Tryz.ntmps321
 go_wp2_with (first | (refine (flag_any _ _).mono ?_;rintro e w1 ⟨rfl,rfl⟩))
 all_goals first
  | (exfalso;simp_all;done)
  | (go_ret2;rw [show isOne v=true by simp [isOne, *]];exact ⟨⟨_,rfl⟩,rfl⟩)
  | (go_ret2;rw [show isOne v=false by simp [isOne, *]];exact ⟨⟨_,rfl⟩,rfl⟩)
end Go.Proofs.Ari
set_option maxHeartbeats 8000000
namespace Go.Proofs.Shed
open Go Go.RowKit Go.Proofs.K
theorem Heap.from_len (m:Mem) (hi:Int) (k:Nat) (a:Int) (l:List Blk) (ha:a≤hi) (h:Heap.blocksN m hi k a=some l):16*(l.length:Int)≤hi-a:=by
 induction k generalizing a l with
 | zero =>
  rw [Heap.blocksN] at h
  cases h
  simp only [List.length_nil];omega
 | succ k ih =>
  rw [Heap.blocksN] at h;by_cases h1:a<hi
  · rw [if_pos h1] at h
    by_cases h2:(m.cell a).2≠0∨(Heap.blk a (m.cell a).1).size<16∨(Heap.blk a (m.cell a).1).size % 8≠0∨hi-a<(Heap.blk a (m.cell a).1).size
    · rw [if_pos h2] at h;cases h
    · rw [if_neg h2] at h
      cases hq:Heap.blocksN m hi k (a+(Heap.blk a (m.cell a).1).size) with
      | none=>rw [hq] at h;cases h
      | some q =>
       rw [hq] at h;simp only [Option.map_some,Option.some.injEq] at h
       subst h;have:=ih _ _ (by omega) hq
       rw [List.length_cons];omega
  · rw [if_neg h1] at h
    cases h
    simp only [List.length_nil];omega
theorem OwnB.at {B:Nat} {w:World} {a:Option Addr} {c:Nat} {L:List Blk} (h:OwnB B w a c L) {i:Nat} (hi:i<L.length) :
 ∃ g,a=some ⟨g,0,none⟩∧L.length≤c∧w.cell? ⟨g,i*3,none⟩=some (.int .i64 L[i].at_)∧w.cell? ⟨g,i*3+1,none⟩=some (.int .i64 L[i].size)∧w.cell? ⟨g,i*3+2,none⟩=some (.bool L[i].used):=by
 rcases h.1.form with ⟨_,hn,_⟩ | ⟨g,cur,hx,hh,hnc,_⟩
 · omega
 · have ho:=h.1
   rw [hx] at ho;obtain ⟨q0,q1,q2⟩:=blkV_get L i hi;exact ⟨g,hx,hnc,ho.cell q0,ho.cell q1,ho.cell q2⟩
theorem findN_step (a:Int) (i:Nat) (b:Blk) (l:List Blk):Heap.findN a i (b :: l)=if b.used=true∧b.at_+8=a then (i:Int) else Heap.findN a (i+1) l:=rfl
theorem heap_find (B:Nat) (w:World) (a:Option Addr) (c:Nat) (L:List Blk) (x:Int) (h:OwnB B w a c L) (hL:∀ b ∈ L,0≤b.at_∧b.at_≤4611686018427387904) (hl:L.length≤1000000) :
 Calls Tryz.prog 415 #[.slice a L.length c,.int .i64 x] w fun e w'=>e=.returned (.int .i64 (Heap.find L x))∧Keeps (fun _=>False) w w':=by
 have H:=h_ h;have HL:=h_ hL;have HD:Hid (Heap.findN x 0 L=Heap.find L x):=rfl;generalize Heap.find L x=r at HD ⊢;clear h hL
 go_enter Tryz.func415,Tryz.ntmps415
 go_wp2_with fail
 go_loopw [9] (fun iv wr=>∃ i:Nat,iv=.int .i64 i∧i≤L.length∧Keeps (fun _=>False) w wr∧Heap.findN x i (L.drop i)=r) (fun iv _=>L.length-(intOf iv).toNat)
 case atStart=>exact ⟨0,rfl,by omega,Keeps.refl _ _,HD.out⟩
 case round =>
  obtain ⟨i,rfl,hi,hk,hf⟩:=hrel;have HK:=h_ hk;clear hk;by_cases hlt:i<L.length
  · rw [List.drop_eq_getElem_cons hlt,findN_step] at hf
    have hbd:=HL.out L[i] (List.getElem_mem hlt);obtain ⟨g,rfl,hnc,c0',c1',c2'⟩:=H.out.at hlt;have c0:=HK.out.cell c0' id;have c1:=HK.out.cell c1' id;have c2:=HK.out.cell c2' id;clear c0' c1' c2';generalize L[i]=p at c0 c1 c2 hf hbd;obtain ⟨at_,size,used⟩:=p;simp only at c0 c1 c2 hf hbd
    have hi0:(0:Int)≤(i:Int):=by omega
    have KA:=h_ (HK.out.trans (ka_ wr (.cells #[.int .i64 at_,.int .i64 size,.bool used] 301)))
    cases used with
    | false =>
     rw [if_neg (by simp)] at hf
     have HF:=h_ hf;clear hf;go_wp2_with fail
     go_roundw
     case rel=>exact ⟨i+1,by go_num,by omega,KA.out,HF.out⟩
     case measure=>simp [intOf];omega
    | true =>
     by_cases he:at_+8=x
     · rw [if_pos ⟨rfl,he⟩] at hf
       have he':(at_+8 == x)=true:=by simp [he]
       subst hf;clear he;go_wp2_with fail;go_ret
       exact ⟨rfl,KA.out⟩
     · rw [if_neg (by simp [he])] at hf
       have he':(at_+8 == x)=false:=by simp [he]
       have HF:=h_ hf;clear hf he;go_wp2_with fail
       go_roundw
       case rel=>exact ⟨i+1,by go_num,by omega,KA.out,HF.out⟩
       case measure=>simp [intOf];omega
  · rw [List.drop_eq_nil_of_le (by omega),Heap.findN] at hf
    subst hf;go_wp2_with fail;go_ret
    exact ⟨rfl,HK.out⟩
def AllocPost (h b bb:Nat) (lo hi:Int) (r:Mem × Int × Int) (w:World) (e:Ending) (w':World):Prop :=
 e=.returned (.tuple #[.int .i64 r.2.1,.int .i64 r.2.2])∧RHp w' h b bb r.1 lo hi∧Keeps (fun k=>k=bb) w w'
theorem heap_put_size (m:Mem) (x:Blk):(Heap.put m x).1.size=m.size:=Mem.setCell_size _ _ _
theorem heap_alloc (w:World) (h b bb:Nat) (m:Mem) (lo hi n:Int) (H0:RHp w h b bb m lo hi) :
 Calls Tryz.prog 337 #[.pointer (some ⟨h,0,none⟩),.int .i64 n] w (AllocPost h b bb lo hi (Heap.alloc m lo hi n) w):=by
 have H:=h_ H0;have b0:=H0.lo0;have b1:=H0.lt;have b2:=H0.top;have b3:=H0.mem.le
 have HD:Hid (Heap.alloc m lo hi n=if n<0∨1048576<n then (m,0,-59)
 else match Heap.blocks m lo hi with
  | none=>(m,0,-2052)
  | some l=>match Heap.pick (Heap.need n) l with
   | none=>(m,0,-59)
   | some b=>Heap.give m b (Heap.need n)):=rfl
 generalize Heap.alloc m lo hi n=r at HD ⊢;by_cases hn:n<0∨1048576<n
 · have hr:=HD.out
   rw [if_pos hn] at hr;have HR:=h_ hr;clear hr HD
   rcases hn with hn | hn
   · go_enter Tryz.func337,Tryz.ntmps337
     go_wp2_with fail;go_ret2
     rw [HR.out];exact ⟨rfl,H.out,Keeps.refl _ _⟩
   · have hn':decide (n<0)=false:=decide_eq_false (by omega)
     go_enter Tryz.func337,Tryz.ntmps337
     go_wp2_with fail;go_ret2
     rw [HR.out];exact ⟨rfl,H.out,Keeps.refl _ _⟩
 · have hr:=HD.out
   rw [if_neg hn] at hr;have n0:decide (n<0)=false:=decide_eq_false (by omega)
   have n1:decide (1048576<n)=false:=decide_eq_false (by omega)
   have n2:0≤n:=by omega
   have n3:n≤1048576:=by omega
   have hN:=h_ fun w=>heap_need w n (by omega) (by omega)
   have hbl:=h_ (heap_blocks w h b bb m lo hi H.out);have hmem:=h_ (fun l (e:Heap.blocks m lo hi=some l)=>Heap.blocks_mem e)
   have hlen:=h_ (fun l (e:Heap.blocks m lo hi=some l)=>Heap.from_len m hi _ lo l b1 e)
   have hneed:=Heap.need_bd n (by omega)
   generalize Heap.blocks m lo hi=q at hr hbl hmem hlen;generalize Heap.need n=nd at hr hN hneed;have HR:=h_ hr;clear hr HD hn
   cases q with
   | none =>
    have hr:=HR.out;simp only at hr
    have HR':=h_ hr;clear hr;unfold BlkPost at hbl
    go_enter Tryz.func337,Tryz.ntmps337
    go_wp2_with fail;refine hbl.out.mono ?_;rintro e w1 ⟨rfl,k1⟩;have K1:=h_ k1;clear k1;go_wp2_with fail;go_ret2
    rw [HR'.out];exact ⟨rfl,H.out.keeps K1.out id id id,K1.out.mono (fun _ _=>False.elim)⟩
   | some l =>
    have hr:=HR.out;simp only at hr
    have HR':=h_ hr;have hlm:=h_ (hmem.out l rfl);have hll:=hlen.out l rfl;have hl6:l.length≤1000000:=by omega
    clear hll hlen;clear hr HR hmem;unfold BlkPost at hbl
    go_enter Tryz.func337,Tryz.ntmps337
    go_wp2_with fail;refine hbl.out.mono ?_;rintro e w1 ⟨a,c,rfl,o1,k1⟩;have K1:=h_ k1;have O1:=h_ o1;have R1:=h_ (H.out.keeps k1 id id id);clear k1 o1 hbl;go_wp2_with fail;refine (hN.out _).mono ?_;rintro e w2 ⟨rfl,rfl⟩;go_wp2_with fail
    go_loopw [34] (fun iv wr=>∃ i:Nat,iv=.int .i64 i∧i≤l.length∧Keeps (fun _=>False) w1 wr∧Heap.pick nd (l.drop i)=Heap.pick nd l) (fun iv _=>l.length-(intOf iv).toNat)
    case atStart=>exact ⟨0,rfl,by omega,Keeps.refl _ _,rfl⟩
    case round =>
     obtain ⟨i,rfl,hil,hk,hf⟩:=hrel;have HK:=h_ hk;clear hk;by_cases hlt:i<l.length
     · rw [List.drop_eq_getElem_cons hlt,Heap.pick] at hf
       have hbd:=hlm.out l[i] (List.getElem_mem hlt);obtain ⟨g,rfl,hnc,c0',c1',c2'⟩:=O1.out.at hlt;have c0:=HK.out.cell c0' id;have c1:=HK.out.cell c1' id;have c2:=HK.out.cell c2' id;clear c0' c1' c2';generalize l[i]=p at c0 c1 c2 hf hbd;obtain ⟨at_,size,used⟩:=p;simp only at c0 c1 c2 hf hbd
       have hi0:(0:Int)≤(i:Int):=by omega
       have at0:0≤at_:=by omega
       have at1:at_≤4611686018427387:=by omega
       have sz0:16≤size:=by omega
       have sz1:size≤4611686018427387:=by omega
       have nd0:16≤nd:=by omega
       have nd1:nd≤1048592:=by omega
       have ka:=ka_ wr (.cells #[.int .i64 at_,.int .i64 size,.bool used] 301);have KA:=h_ (HK.out.trans ka);have RA:=h_ (R1.out.keeps KA.out id id id)
       cases used with
       | true =>
        rw [if_pos (.inl rfl)] at hf;have HF:=h_ hf;clear hf ka;go_wp2_with fail
        go_roundw
        case rel=>exact ⟨i+1,by go_num,by omega,KA.out,HF.out⟩
        case measure=>simp [intOf];omega
       | false =>
        by_cases hsz:size<nd
        · rw [if_pos (.inr hsz)] at hf
          have HF:=h_ hf;have hd:decide (size<nd)=true:=decide_eq_true hsz;clear hf ka;go_wp2_with fail
          go_roundw
          case rel=>exact ⟨i+1,by go_num,by omega,KA.out,HF.out⟩
          case measure=>simp [intOf];omega
        · rw [if_neg (by simp [hsz])] at hf
          have hr:=HR'.out;rw [← hf] at hr;have hrg:r=Heap.give m ⟨at_,size,false⟩ nd:=hr;unfold Heap.give at hrg;simp only at hrg
          have hd:decide (size<nd)=false:=decide_eq_false hsz;have hbw:=RA.out.mem.lt;have hhw:=lt_of_heap RA.out.head;have D0:=cell_of (i:=0) (halloc_at wr (.cells #[.int .i64 at_,.int .i64 size,.bool false] 301)) rfl;have D1:=cell_of (i:=1) (halloc_at wr (.cells #[.int .i64 at_,.int .i64 size,.bool false] 301)) rfl;have D2:=cell_of (i:=2) (halloc_at wr (.cells #[.int .i64 at_,.int .i64 size,.bool false] 301)) rfl;clear hr hf HR';by_cases hrest:16≤size-nd
          · rw [if_pos hrest] at hrg
            have hd2:decide (16≤size-nd)=true:=decide_eq_true hrest;have HP1:=heap_put _ _ _ _ _ _ _ ⟨at_+nd,size-nd,false⟩ RA.out (by simp only;omega) (by simp only;omega)
            have HP2:=h_ fun w m H=>heap_put w h b bb m lo hi ⟨at_,nd,true⟩ H (by simp only;omega) (by simp only;omega)
            have hz1:=heap_put_size m ⟨at_+nd,size-nd,false⟩;unfold Blk.val at HP1 HP2;simp only at HP1 HP2
            generalize Heap.put m ⟨at_+nd,size-nd,false⟩=u at HP1 hrg hz1;have HZ1:=h_ hz1;have HP:=h_ HP1;have hz2:=heap_put_size u.1 ⟨at_,nd,true⟩;have hP2:=fun w H=>HP2.out w u.1 H
            generalize Heap.put u.1 ⟨at_,nd,true⟩=v at hP2 hrg hz2;have HZ2:=h_ hz2;have HPP:=h_ hP2;have HRG:=h_ hrg;have N9:=h_ (show ¬ wr.heap.size=bb by have:=(R1.out.keeps HK.out id id id).mem.lt;omega)
            clear hrg hrest hsz hz1 hz2 hP2 HP1 HP2;go_wp2_with fail;refine HP.out.mono ?_;rintro e w3 ⟨rfl,m3,k3⟩;have R3:=h_ (RA.out.with m3 HZ1.out k3);have h9:=k3.heap (halloc_at wr (.cells #[.int .i64 at_,.int .i64 size,.bool false] 301)) N9.out;have E0:=cell_of (i:=0) h9 rfl;have E1:=cell_of (i:=1) h9 rfl;have E2:=cell_of (i:=2) h9 rfl;have f1:=free_of (i:=1) h9;have f2:=free_of (i:=2) h9;have hsz3:=k3.size;rw [World.size_alloc] at hsz3;have K3:=h_ (((K1.out.trans KA.out).mono (fun _ _=>False.elim)).trans k3)
            have h9':=hset_same (i:=2) (hset_same (i:=1) h9 (.int .i64 nd)) (.bool true)
            have KS:Keeps (fun j=>j=wr.heap.size) w3 ((w3.setCell ⟨wr.heap.size,1,none⟩ (.int .i64 nd)).setCell ⟨wr.heap.size,2,none⟩ (.bool true)) :=
             Keeps.trans (Keeps.setCell (S:=fun j=>j=wr.heap.size) w3 ⟨wr.heap.size,1,none⟩ (.int .i64 nd) (fun _=>rfl)) (Keeps.setCell (S:=fun j=>j=wr.heap.size) _ ⟨wr.heap.size,2,none⟩ (.bool true) (fun _=>rfl))
            have H9:=h_ h9';have KS':=h_ KS;clear m3 k3 h9 h9' KS D0 D1 D2;go_wp2_with fail;generalize (w3.setCell ⟨wr.heap.size,1,none⟩ (.int .i64 nd)).setCell ⟨wr.heap.size,2,none⟩ (.bool true)=w4 at H9 KS' ⊢;have G0:=cell_of (i:=0) H9.out rfl;have G1:=cell_of (i:=1) H9.out rfl;have G2:=cell_of (i:=2) H9.out rfl;have R4:=h_ (R3.out.keeps (KS'.out.trans (Keeps.drew _ _)) (fun e=>by have:=lt_of_heap (R1.out.keeps HK.out id id id).head;omega) (fun e=>by have:=(R1.out.keeps HK.out id id id).mem.lt;omega) (fun e=>N9.out e.symm))
            have K4:=h_ (K3.out.trans' (KS'.out.trans (Keeps.drew _ _)) (fun j hj e=>by have:=K1.out.size;have:=HK.out.size;omega))
            have HQ:=h_ (HPP.out _ R4.out);have hw8:IntKind.i64.wrap (at_+8)=at_+8:=IntWalk.i64_in _ (by omega)
            go_wp2_with fail
            go_region_held3 (fun w'=>w'.cell? ⟨wr.heap.size,0,none⟩=some (.int .i64 at_)∧w'.cell? ⟨wr.heap.size,1,none⟩=some (.int .i64 nd)∧w'.cell? ⟨wr.heap.size,2,none⟩=some (.bool true))
             (first | go_keep | exact ⟨k5.cell G0 N9.out,k5.cell G1 N9.out,k5.cell G2 N9.out⟩)
             ((go_at_call 209;refine HQ.out.mono ?_;rintro e w5 ⟨rfl,m5,k5⟩))
            have R5:=h_ (R4.out.with m5 HZ2.out k5);have K5:=h_ (K4.out.trans k5);clear m5 k5;go_wp2_with fail;go_ret2
            rw [HRG.out];exact ⟨rfl,R5.out,K5.out⟩
          · rw [if_neg hrest] at hrg
            have hd2:decide (16≤size-nd)=false:=decide_eq_false hrest;have HP2:=fun w H=>heap_put w h b bb m lo hi ⟨at_,size,true⟩ H (by simp only;omega) (by simp only;omega)
            have hz2:=heap_put_size m ⟨at_,size,true⟩;unfold Blk.val at HP2;simp only at HP2
            generalize Heap.put m ⟨at_,size,true⟩=v at HP2 hrg hz2;have HZ2:=h_ hz2;have HPP:=h_ HP2;have HRG:=h_ hrg;have N9:=h_ (show ¬ wr.heap.size=bb by have:=(R1.out.keeps HK.out id id id).mem.lt;omega)
            have f2:=free_of (i:=2) (halloc_at wr (.cells #[.int .i64 at_,.int .i64 size,.bool false] 301));have h9:=halloc_at wr (.cells #[.int .i64 at_,.int .i64 size,.bool true] 301);have G0:=cell_of (i:=0) h9 rfl;have G1:=cell_of (i:=1) h9 rfl;have G2:=cell_of (i:=2) h9 rfl;have k9:=(HK.out.trans (ka_ wr (.cells #[.int .i64 at_,.int .i64 size,.bool true] 301))).trans (Keeps.drew _ _);have R4:=h_ (R1.out.keeps k9 id id id);have K4:=h_ ((K1.out.trans k9).mono (T:=fun k=>k=bb) (fun _ _=>False.elim))
            have HQ:=h_ (HPP.out _ R4.out);have hw8:IntKind.i64.wrap (at_+8)=at_+8:=IntWalk.i64_in _ (by omega)
            clear k9 h9 f2 D0 D1 ka;go_wp2_with fail
            go_region_held3 (fun w'=>w'.cell? ⟨wr.heap.size,0,none⟩=some (.int .i64 at_)∧w'.cell? ⟨wr.heap.size,1,none⟩=some (.int .i64 size)∧w'.cell? ⟨wr.heap.size,2,none⟩=some (.bool true))
             (first | go_keep | exact ⟨k5.cell G0 N9.out,k5.cell G1 N9.out,k5.cell G2 N9.out⟩)
             ((go_at_call 209;refine HQ.out.mono ?_;rintro e w5 ⟨rfl,m5,k5⟩))
            have R5:=h_ (R4.out.with m5 HZ2.out k5);have K5:=h_ (K4.out.trans k5);clear m5 k5;go_wp2_with fail;go_ret2
            rw [HRG.out];exact ⟨rfl,R5.out,K5.out⟩
     · rw [List.drop_eq_nil_of_le (by omega),Heap.pick] at hf
       have hr:=HR'.out;rw [← hf] at hr;have HRG:=h_ hr;clear hr hf HR';go_wp2_with fail;go_ret2
       rw [HRG.out];exact ⟨rfl,(R1.out.keeps HK.out id id id),(K1.out.trans HK.out).mono (fun _ _=>False.elim)⟩
def FreePost (h b bb:Nat) (lo hi:Int) (r:Mem × Int) (w:World) (e:Ending) (w':World):Prop :=
 e=.returned (.int .i64 r.2)∧RHp w' h b bb r.1 lo hi∧Keeps (fun k=>k=bb) w w'
theorem join_eq (p:List Blk) (u:Blk) (s:List Blk):Heap.join (p++u :: s) p.length =
 (if 0<p.length∧((p++u :: s).getD (p.length-1) ⟨0,0,true⟩).used=false then
   ⟨((p++u :: s).getD (p.length-1) ⟨0,0,true⟩).at_,(if 0<s.length∧(s.getD 0 ⟨0,0,true⟩).used=false then u.size+(s.getD 0 ⟨0,0,true⟩).size else u.size)+((p++u :: s).getD (p.length-1) ⟨0,0,true⟩).size,false⟩
  else ⟨u.at_,if 0<s.length∧(s.getD 0 ⟨0,0,true⟩).used=false then u.size+(s.getD 0 ⟨0,0,true⟩).size else u.size,false⟩):=by
 have e0:(p++u :: s).getD p.length ⟨0,0,false⟩=u:=by simp
 have e1:(p++u :: s).getD (p.length+1) ⟨0,0,true⟩=s.getD 0 ⟨0,0,true⟩:=by
  rw [List.getD_eq_getElem?_getD,List.getD_eq_getElem?_getD,List.getElem?_append_right (by omega),show p.length+1-p.length=0+1 by omega,List.getElem?_cons_succ]
 have e2:(p.length+1<(p++u :: s).length)=(0<s.length):=by
  rw [List.length_append,List.length_cons];exact propext ⟨fun h=>by omega,fun h=>by omega⟩
 unfold Heap.join;simp only [e0,e1,e2]
theorem heap_put_at (w V:World) (h b bb:Nat) (m:Mem) (lo hi:Int) (x:Blk) (H:RHp w h b bb m lo hi) (k:Keeps (fun _=>False) w V) (h0 : -4611686018427387904≤x.size) (h1:x.size≤4611686018427387904) :
 Calls Tryz.prog 209 #[.pointer (some ⟨h,0,none⟩),.agg #[.int .i64 x.at_,.int .i64 x.size,.bool x.used]] V (FreePost h b bb lo hi (Heap.put m x) w):=by
 refine (heap_put V h b bb m lo hi x (H.keeps k id id id) h0 h1).mono ?_;rintro e w' ⟨rfl,m',k'⟩;exact ⟨rfl,(H.keeps k id id id).with m' (heap_put_size _ _) k',(k.mono (fun _ _=>False.elim)).trans k'⟩
def BlkAt (l:List Blk) (i:Nat) (v:Blk):Prop:=∀ B w a c,OwnB B w a c l→∃ g,a=some ⟨g,0,none⟩∧l.length≤c∧w.cell? ⟨g,i*3,none⟩=some (.int .i64 v.at_)∧w.cell? ⟨g,i*3+1,none⟩=some (.int .i64 v.size)∧w.cell? ⟨g,i*3+2,none⟩=some (.bool v.used)
theorem blkAt (l:List Blk) (i:Nat) (h:i<l.length):BlkAt l i l[i]:=fun B w a c o=>o.at h
def Blk.Fit (v:Blk):Prop:=0≤v.at_∧v.at_≤4194304∧16≤v.size∧v.size≤4194304
def joinN (u:Blk) (nx:Option Blk):Int:=match nx with | some n=>if n.used=false then u.size+n.size else u.size | none=>u.size
def joinO (u:Blk) (nx pv:Option Blk):Blk:=match pv with
 | some v=>if v.used=false then ⟨v.at_,joinN u nx+v.size,false⟩ else ⟨u.at_,joinN u nx,false⟩
 | none=>⟨u.at_,joinN u nx,false⟩
theorem free_walk (w:World) (h b bb:Nat) (m:Mem) (lo hi x:Int) (H:Hid (RHp w h b bb m lo hi)) (l:List Blk) (len k:Nat) (hlen:Hid (l.length=len)) (hl6:len≤1000000) (hk:k<len)
 (hbl:Hid (Calls Tryz.prog 279 #[.pointer (some ⟨h,0,none⟩)] w fun e w'=>∃ a c,e=.returned (.tuple #[.slice a len c,.int .i64 0])∧OwnB w.heap.size w' a c l∧Keeps (fun _=>False) w w'))
 (hF:Hid (∀ a c w1,OwnB w.heap.size w1 a c l→Calls Tryz.prog 415 #[.slice a len c,.int .i64 x] w1 fun e w'=>e=.returned (.int .i64 (k:Int))∧Keeps (fun _=>False) w1 w'))
 (u:Blk) (uf:u.Fit) (hU:Hid (BlkAt l k u)) (nx pv:Option Blk) (hN:match nx with | none=>k+1=len | some n=>k+1<len∧n.Fit∧BlkAt l (k+1) n) (hP:match pv with | none=>k=0 | some v=>0<k∧v.Fit∧BlkAt l (k-1) v) :
 Calls Tryz.prog 339 #[.pointer (some ⟨h,0,none⟩),.int .i64 x] w (FreePost h b bb lo hi (Heap.put m (joinO u nx pv)) w):=by
 obtain ⟨ua,us,uu⟩:=u;unfold Blk.Fit at uf;simp only at uf
 obtain ⟨u0,u1,u2,u3⟩:=uf;have hk0:(0:Int)≤(k:Int):=by omega
 have hk1:decide ((k:Int)<0)=false:=decide_eq_false (by omega)
 cases nx with
 | none =>
  have hn:decide ((k:Int)+1<len)=false:=decide_eq_false (by simp only at hN;omega)
  clear hN
  cases pv with
  | none =>
   have hp:decide (0<(k:Int))=false:=decide_eq_false (by simp only at hP;omega)
   have hp2:decide (0<k)=false:=decide_eq_false (by simp only at hP;omega)
   have HJ:Hid (joinO ⟨ua,us,uu⟩ none none=⟨ua,us,false⟩):=rfl;rw [HJ.out];clear hP HJ
   go_enter Tryz.func339,Tryz.ntmps339
   go_wp2_with fail;refine hbl.out.mono ?_;rintro e w1 ⟨a,c,rfl,o1,k1⟩;have K1:=h_ k1;have O1:=h_ o1;clear k1 o1 hbl;go_wp2_with fail;refine (hF.out _ _ _ O1.out).mono ?_;rintro e w2 ⟨rfl,k2⟩;have K2:=h_ (K1.out.trans k2);have hw2:=K2.out.size;have O2:=h_ (O1.out.keeps k2 (fun _ _=>id))
   clear k2;obtain ⟨g,rfl,hnc,c0,c1,c2⟩:=hU.out _ _ _ _ O2.out;rw [hlen.out] at hnc;simp only at c0 c1 c2
   go_wp2_with fail
   refine (heap_put_at w _ h b bb m lo hi ⟨ua,us,false⟩ H.out (by
    repeat (first | exact K2.out | refine Keeps.setNew ?_ _ _ (by simp;omega) | refine (Keeps.trans ?_ (Keeps.drew _ _)) | refine (Keeps.trans ?_ (Keeps.alloc _ _ _)))) (by simp only;omega) (by simp only;omega)).mono ?_
   rintro e w9 ⟨rfl,m9,k9⟩;have M9:=h_ m9;have K9:=h_ k9;clear m9 k9;go_wp2_with fail;go_ret
   exact ⟨rfl,M9.out,K9.out⟩
  | some v =>
   simp only at hP
   obtain ⟨hp0,vf,hV⟩:=hP;have HV:=h_ hV;obtain ⟨va,vs,vu⟩:=v;unfold Blk.Fit at vf;simp only at vf
   obtain ⟨v0,v1,v2,v3⟩:=vf;have hp:decide (0<(k:Int))=true:=decide_eq_true (by omega)
   have hp2:decide (0<k)=true:=decide_eq_true (by omega)
   have hkm:(0:Int)≤(k:Int)-1:=by omega
   have hkm1:(k:Int)-1<len:=by omega
   have hkm2:((k:Int)-1).toNat=k-1:=by omega
   clear hV
   cases vu with
   | true =>
    have HJ:Hid (joinO ⟨ua,us,uu⟩ none (some ⟨va,vs,true⟩)=⟨ua,us,false⟩):=rfl;rw [HJ.out];clear HJ
    go_enter Tryz.func339,Tryz.ntmps339
    go_wp2_with fail;refine hbl.out.mono ?_;rintro e w1 ⟨a,c,rfl,o1,k1⟩;have K1:=h_ k1;have O1:=h_ o1;clear k1 o1 hbl;go_wp2_with fail;refine (hF.out _ _ _ O1.out).mono ?_;rintro e w2 ⟨rfl,k2⟩;have K2:=h_ (K1.out.trans k2);have hw2:=K2.out.size;have O2:=h_ (O1.out.keeps k2 (fun _ _=>id))
    clear k2;obtain ⟨g,rfl,hnc,c0,c1,c2⟩:=hU.out _ _ _ _ O2.out;rw [hlen.out] at hnc;simp only at c0 c1 c2
    obtain ⟨g',hg',_,p0,p1,p2⟩:=HV.out _ _ _ _ O2.out
    cases hg'
    simp only at p0 p1 p2
    have q0:=fun o=>(ka_ w2 o).cell p0 id
    have q1:=fun o=>(ka_ w2 o).cell p1 id
    have q2:=fun o=>(ka_ w2 o).cell p2 id
    go_wp2_with fail
    refine (heap_put_at w _ h b bb m lo hi ⟨ua,us,false⟩ H.out (by
     repeat (first | exact K2.out | refine Keeps.setNew ?_ _ _ (by simp;omega) | refine (Keeps.trans ?_ (Keeps.drew _ _)) | refine (Keeps.trans ?_ (Keeps.alloc _ _ _)))) (by simp only;omega) (by simp only;omega)).mono ?_
    rintro e w9 ⟨rfl,m9,k9⟩;have M9:=h_ m9;have K9:=h_ k9;clear m9 k9;go_wp2_with fail;go_ret
    exact ⟨rfl,M9.out,K9.out⟩
   | false =>
    have HJ:Hid (joinO ⟨ua,us,uu⟩ none (some ⟨va,vs,false⟩)=⟨va,us+vs,false⟩):=rfl;rw [HJ.out];clear HJ
    go_enter Tryz.func339,Tryz.ntmps339
    go_wp2_with fail;refine hbl.out.mono ?_;rintro e w1 ⟨a,c,rfl,o1,k1⟩;have K1:=h_ k1;have O1:=h_ o1;clear k1 o1 hbl;go_wp2_with fail;refine (hF.out _ _ _ O1.out).mono ?_;rintro e w2 ⟨rfl,k2⟩;have K2:=h_ (K1.out.trans k2);have hw2:=K2.out.size;have O2:=h_ (O1.out.keeps k2 (fun _ _=>id))
    clear k2;obtain ⟨g,rfl,hnc,c0,c1,c2⟩:=hU.out _ _ _ _ O2.out;rw [hlen.out] at hnc;simp only at c0 c1 c2
    obtain ⟨g',hg',_,p0,p1,p2⟩:=HV.out _ _ _ _ O2.out
    cases hg'
    simp only at p0 p1 p2
    have q0:=fun o=>(ka_ w2 o).cell p0 id
    have q1:=fun o=>(ka_ w2 o).cell p1 id
    have q2:=fun o=>(ka_ w2 o).cell p2 id
    go_wp2_with fail
    go_region
    go_wp2_with fail
    refine (heap_put_at w _ h b bb m lo hi ⟨va,(us+vs),false⟩ H.out (by
     repeat (first | exact K2.out | refine Keeps.setNew ?_ _ _ (by simp;omega) | refine (Keeps.trans ?_ (Keeps.drew _ _)) | refine (Keeps.trans ?_ (Keeps.alloc _ _ _)))) (by simp only;omega) (by simp only;omega)).mono ?_
    rintro e w9 ⟨rfl,m9,k9⟩;have M9:=h_ m9;have K9:=h_ k9;clear m9 k9;go_wp2_with fail;go_ret
    exact ⟨rfl,M9.out,K9.out⟩
 | some n =>
  simp only at hN
  obtain ⟨hn1,nf,hNx⟩:=hN;have HNX:=h_ hNx;obtain ⟨na,ns,nu⟩:=n;unfold Blk.Fit at nf;simp only at nf
  obtain ⟨m0,m1,m2,m3⟩:=nf;have hn:decide ((k:Int)+1<len)=true:=decide_eq_true (by omega)
  have hn2:(k:Int)+1<len:=by omega
  clear hNx
  cases nu with
  | true =>
   cases pv with
   | none =>
    have hp:decide (0<(k:Int))=false:=decide_eq_false (by simp only at hP;omega)
    have hp2:decide (0<k)=false:=decide_eq_false (by simp only at hP;omega)
    have HJ:Hid (joinO ⟨ua,us,uu⟩ (some ⟨na,ns,true⟩) none=⟨ua,us,false⟩):=rfl;rw [HJ.out];clear hP HJ
    go_enter Tryz.func339,Tryz.ntmps339
    go_wp2_with fail;refine hbl.out.mono ?_;rintro e w1 ⟨a,c,rfl,o1,k1⟩;have K1:=h_ k1;have O1:=h_ o1;clear k1 o1 hbl;go_wp2_with fail;refine (hF.out _ _ _ O1.out).mono ?_;rintro e w2 ⟨rfl,k2⟩;have K2:=h_ (K1.out.trans k2);have hw2:=K2.out.size;have O2:=h_ (O1.out.keeps k2 (fun _ _=>id))
    clear k2;obtain ⟨g,rfl,hnc,c0,c1,c2⟩:=hU.out _ _ _ _ O2.out;rw [hlen.out] at hnc;simp only at c0 c1 c2
    obtain ⟨g',hg',_,n0,n1,n2⟩:=HNX.out _ _ _ _ O2.out
    cases hg'
    simp only at n0 n1 n2
    have y0:=fun o=>(ka_ w2 o).cell n0 id
    have y1:=fun o=>(ka_ w2 o).cell n1 id
    have y2:=fun o=>(ka_ w2 o).cell n2 id
    go_wp2_with fail
    refine (heap_put_at w _ h b bb m lo hi ⟨ua,(us),false⟩ H.out (by
     repeat (first | exact K2.out | refine Keeps.setNew ?_ _ _ (by simp;omega) | refine (Keeps.trans ?_ (Keeps.drew _ _)) | refine (Keeps.trans ?_ (Keeps.alloc _ _ _)))) (by simp only;omega) (by simp only;omega)).mono ?_
    rintro e w9 ⟨rfl,m9,k9⟩;have M9:=h_ m9;have K9:=h_ k9;clear m9 k9;go_wp2_with fail;go_ret
    exact ⟨rfl,M9.out,K9.out⟩
   | some v =>
    simp only at hP
    obtain ⟨hp0,vf,hV⟩:=hP;have HV:=h_ hV;obtain ⟨va,vs,vu⟩:=v;unfold Blk.Fit at vf;simp only at vf
    obtain ⟨v0,v1,v2,v3⟩:=vf;have hp:decide (0<(k:Int))=true:=decide_eq_true (by omega)
    have hp2:decide (0<k)=true:=decide_eq_true (by omega)
    have hkm:(0:Int)≤(k:Int)-1:=by omega
    have hkm1:(k:Int)-1<len:=by omega
    have hkm2:((k:Int)-1).toNat=k-1:=by omega
    clear hV
    cases vu with
    | true =>
     have HJ:Hid (joinO ⟨ua,us,uu⟩ (some ⟨na,ns,true⟩) (some ⟨va,vs,true⟩)=⟨ua,us,false⟩):=rfl;rw [HJ.out];clear HJ
     go_enter Tryz.func339,Tryz.ntmps339
     go_wp2_with fail;refine hbl.out.mono ?_;rintro e w1 ⟨a,c,rfl,o1,k1⟩;have K1:=h_ k1;have O1:=h_ o1;clear k1 o1 hbl;go_wp2_with fail;refine (hF.out _ _ _ O1.out).mono ?_;rintro e w2 ⟨rfl,k2⟩;have K2:=h_ (K1.out.trans k2);have hw2:=K2.out.size;have O2:=h_ (O1.out.keeps k2 (fun _ _=>id))
     clear k2;obtain ⟨g,rfl,hnc,c0,c1,c2⟩:=hU.out _ _ _ _ O2.out;rw [hlen.out] at hnc;simp only at c0 c1 c2
     obtain ⟨g',hg',_,n0,n1,n2⟩:=HNX.out _ _ _ _ O2.out
     cases hg'
     simp only at n0 n1 n2
     have y0:=fun o=>(ka_ w2 o).cell n0 id
     have y1:=fun o=>(ka_ w2 o).cell n1 id
     have y2:=fun o=>(ka_ w2 o).cell n2 id
     obtain ⟨g',hg',_,p0,p1,p2⟩:=HV.out _ _ _ _ O2.out
     cases hg'
     simp only at p0 p1 p2
     have q0:=fun o=>(ka_ w2 o).cell p0 id
     have q1:=fun o=>(ka_ w2 o).cell p1 id
     have q2:=fun o=>(ka_ w2 o).cell p2 id
     go_wp2_with fail
     refine (heap_put_at w _ h b bb m lo hi ⟨ua,(us),false⟩ H.out (by
      repeat (first | exact K2.out | refine Keeps.setNew ?_ _ _ (by simp;omega) | refine (Keeps.trans ?_ (Keeps.drew _ _)) | refine (Keeps.trans ?_ (Keeps.alloc _ _ _)))) (by simp only;omega) (by simp only;omega)).mono ?_
     rintro e w9 ⟨rfl,m9,k9⟩;have M9:=h_ m9;have K9:=h_ k9;clear m9 k9;go_wp2_with fail;go_ret
     exact ⟨rfl,M9.out,K9.out⟩
    | false =>
     have HJ:Hid (joinO ⟨ua,us,uu⟩ (some ⟨na,ns,true⟩) (some ⟨va,vs,false⟩)=⟨va,us+vs,false⟩):=rfl;rw [HJ.out];clear HJ
     go_enter Tryz.func339,Tryz.ntmps339
     go_wp2_with fail;refine hbl.out.mono ?_;rintro e w1 ⟨a,c,rfl,o1,k1⟩;have K1:=h_ k1;have O1:=h_ o1;clear k1 o1 hbl;go_wp2_with fail;refine (hF.out _ _ _ O1.out).mono ?_;rintro e w2 ⟨rfl,k2⟩;have K2:=h_ (K1.out.trans k2);have hw2:=K2.out.size;have O2:=h_ (O1.out.keeps k2 (fun _ _=>id))
     clear k2;obtain ⟨g,rfl,hnc,c0,c1,c2⟩:=hU.out _ _ _ _ O2.out;rw [hlen.out] at hnc;simp only at c0 c1 c2
     obtain ⟨g',hg',_,n0,n1,n2⟩:=HNX.out _ _ _ _ O2.out
     cases hg'
     simp only at n0 n1 n2
     have y0:=fun o=>(ka_ w2 o).cell n0 id
     have y1:=fun o=>(ka_ w2 o).cell n1 id
     have y2:=fun o=>(ka_ w2 o).cell n2 id
     obtain ⟨g',hg',_,p0,p1,p2⟩:=HV.out _ _ _ _ O2.out
     cases hg'
     simp only at p0 p1 p2
     have q0:=fun o=>(ka_ w2 o).cell p0 id
     have q1:=fun o=>(ka_ w2 o).cell p1 id
     have q2:=fun o=>(ka_ w2 o).cell p2 id
     go_wp2_with fail
     go_region
     go_wp2_with fail
     refine (heap_put_at w _ h b bb m lo hi ⟨va,(us+vs),false⟩ H.out (by
      repeat (first | exact K2.out | refine Keeps.setNew ?_ _ _ (by simp;omega) | refine (Keeps.trans ?_ (Keeps.drew _ _)) | refine (Keeps.trans ?_ (Keeps.alloc _ _ _)))) (by simp only;omega) (by simp only;omega)).mono ?_
     rintro e w9 ⟨rfl,m9,k9⟩;have M9:=h_ m9;have K9:=h_ k9;clear m9 k9;go_wp2_with fail;go_ret
     exact ⟨rfl,M9.out,K9.out⟩
  | false =>
   cases pv with
   | none =>
    have hp:decide (0<(k:Int))=false:=decide_eq_false (by simp only at hP;omega)
    have hp2:decide (0<k)=false:=decide_eq_false (by simp only at hP;omega)
    have HJ:Hid (joinO ⟨ua,us,uu⟩ (some ⟨na,ns,false⟩) none=⟨ua,us+ns,false⟩):=rfl;rw [HJ.out];clear hP HJ
    go_enter Tryz.func339,Tryz.ntmps339
    go_wp2_with fail;refine hbl.out.mono ?_;rintro e w1 ⟨a,c,rfl,o1,k1⟩;have K1:=h_ k1;have O1:=h_ o1;clear k1 o1 hbl;go_wp2_with fail;refine (hF.out _ _ _ O1.out).mono ?_;rintro e w2 ⟨rfl,k2⟩;have K2:=h_ (K1.out.trans k2);have hw2:=K2.out.size;have O2:=h_ (O1.out.keeps k2 (fun _ _=>id))
    clear k2;obtain ⟨g,rfl,hnc,c0,c1,c2⟩:=hU.out _ _ _ _ O2.out;rw [hlen.out] at hnc;simp only at c0 c1 c2
    obtain ⟨g',hg',_,n0,n1,n2⟩:=HNX.out _ _ _ _ O2.out
    cases hg'
    simp only at n0 n1 n2
    have y0:=fun o=>(ka_ w2 o).cell n0 id
    have y1:=fun o=>(ka_ w2 o).cell n1 id
    have y2:=fun o=>(ka_ w2 o).cell n2 id
    go_wp2_with fail
    go_region
    go_wp2_with fail
    refine (heap_put_at w _ h b bb m lo hi ⟨ua,(us+ns),false⟩ H.out (by
     repeat (first | exact K2.out | refine Keeps.setNew ?_ _ _ (by simp;omega) | refine (Keeps.trans ?_ (Keeps.drew _ _)) | refine (Keeps.trans ?_ (Keeps.alloc _ _ _)))) (by simp only;omega) (by simp only;omega)).mono ?_
    rintro e w9 ⟨rfl,m9,k9⟩;have M9:=h_ m9;have K9:=h_ k9;clear m9 k9;go_wp2_with fail;go_ret
    exact ⟨rfl,M9.out,K9.out⟩
   | some v =>
    simp only at hP
    obtain ⟨hp0,vf,hV⟩:=hP;have HV:=h_ hV;obtain ⟨va,vs,vu⟩:=v;unfold Blk.Fit at vf;simp only at vf
    obtain ⟨v0,v1,v2,v3⟩:=vf;have hp:decide (0<(k:Int))=true:=decide_eq_true (by omega)
    have hp2:decide (0<k)=true:=decide_eq_true (by omega)
    have hkm:(0:Int)≤(k:Int)-1:=by omega
    have hkm1:(k:Int)-1<len:=by omega
    have hkm2:((k:Int)-1).toNat=k-1:=by omega
    clear hV
    cases vu with
    | true =>
     have HJ:Hid (joinO ⟨ua,us,uu⟩ (some ⟨na,ns,false⟩) (some ⟨va,vs,true⟩)=⟨ua,us+ns,false⟩):=rfl;rw [HJ.out];clear HJ
     go_enter Tryz.func339,Tryz.ntmps339
     go_wp2_with fail;refine hbl.out.mono ?_;rintro e w1 ⟨a,c,rfl,o1,k1⟩;have K1:=h_ k1;have O1:=h_ o1;clear k1 o1 hbl;go_wp2_with fail;refine (hF.out _ _ _ O1.out).mono ?_;rintro e w2 ⟨rfl,k2⟩;have K2:=h_ (K1.out.trans k2);have hw2:=K2.out.size;have O2:=h_ (O1.out.keeps k2 (fun _ _=>id))
     clear k2;obtain ⟨g,rfl,hnc,c0,c1,c2⟩:=hU.out _ _ _ _ O2.out;rw [hlen.out] at hnc;simp only at c0 c1 c2
     obtain ⟨g',hg',_,n0,n1,n2⟩:=HNX.out _ _ _ _ O2.out
     cases hg'
     simp only at n0 n1 n2
     have y0:=fun o=>(ka_ w2 o).cell n0 id
     have y1:=fun o=>(ka_ w2 o).cell n1 id
     have y2:=fun o=>(ka_ w2 o).cell n2 id
     obtain ⟨g',hg',_,p0,p1,p2⟩:=HV.out _ _ _ _ O2.out
     cases hg'
     simp only at p0 p1 p2
     have q0:=fun o=>(ka_ w2 o).cell p0 id
     have q1:=fun o=>(ka_ w2 o).cell p1 id
     have q2:=fun o=>(ka_ w2 o).cell p2 id
     go_wp2_with fail
     go_region
     go_wp2_with fail
     refine (heap_put_at w _ h b bb m lo hi ⟨ua,(us+ns),false⟩ H.out (by
      repeat (first | exact K2.out | refine Keeps.setNew ?_ _ _ (by simp;omega) | refine (Keeps.trans ?_ (Keeps.drew _ _)) | refine (Keeps.trans ?_ (Keeps.alloc _ _ _)))) (by simp only;omega) (by simp only;omega)).mono ?_
     rintro e w9 ⟨rfl,m9,k9⟩;have M9:=h_ m9;have K9:=h_ k9;clear m9 k9;go_wp2_with fail;go_ret
     exact ⟨rfl,M9.out,K9.out⟩
    | false =>
     have HJ:Hid (joinO ⟨ua,us,uu⟩ (some ⟨na,ns,false⟩) (some ⟨va,vs,false⟩)=⟨va,us+ns+vs,false⟩):=rfl;rw [HJ.out];clear HJ
     go_enter Tryz.func339,Tryz.ntmps339
     go_wp2_with fail;refine hbl.out.mono ?_;rintro e w1 ⟨a,c,rfl,o1,k1⟩;have K1:=h_ k1;have O1:=h_ o1;clear k1 o1 hbl;go_wp2_with fail;refine (hF.out _ _ _ O1.out).mono ?_;rintro e w2 ⟨rfl,k2⟩;have K2:=h_ (K1.out.trans k2);have hw2:=K2.out.size;have O2:=h_ (O1.out.keeps k2 (fun _ _=>id))
     clear k2;obtain ⟨g,rfl,hnc,c0,c1,c2⟩:=hU.out _ _ _ _ O2.out;rw [hlen.out] at hnc;simp only at c0 c1 c2
     obtain ⟨g',hg',_,n0,n1,n2⟩:=HNX.out _ _ _ _ O2.out
     cases hg'
     simp only at n0 n1 n2
     have y0:=fun o=>(ka_ w2 o).cell n0 id
     have y1:=fun o=>(ka_ w2 o).cell n1 id
     have y2:=fun o=>(ka_ w2 o).cell n2 id
     obtain ⟨g',hg',_,p0,p1,p2⟩:=HV.out _ _ _ _ O2.out
     cases hg'
     simp only at p0 p1 p2
     have q0:=fun o=>(ka_ w2 o).cell p0 id
     have q1:=fun o=>(ka_ w2 o).cell p1 id
     have q2:=fun o=>(ka_ w2 o).cell p2 id
     go_wp2_with fail
     go_region
     go_wp2_with fail
     go_region
     go_wp2_with fail
     refine (heap_put_at w _ h b bb m lo hi ⟨va,(us+ns+vs),false⟩ H.out (by
      repeat (first | exact K2.out | refine Keeps.setNew ?_ _ _ (by simp;omega) | refine (Keeps.trans ?_ (Keeps.drew _ _)) | refine (Keeps.trans ?_ (Keeps.alloc _ _ _)))) (by simp only;omega) (by simp only;omega)).mono ?_
     rintro e w9 ⟨rfl,m9,k9⟩;have M9:=h_ m9;have K9:=h_ k9;clear m9 k9;go_wp2_with fail;go_ret
     exact ⟨rfl,M9.out,K9.out⟩
theorem join_joinO (p:List Blk) (u:Blk) (s:List Blk):Heap.join (p++u :: s) p.length=joinO u (s[0]?) (if p.length=0 then none else (p++u :: s)[p.length-1]?):=by
 rw [join_eq]
 have e1:(if 0<s.length∧(s.getD 0 ⟨0,0,true⟩).used=false then u.size+(s.getD 0 ⟨0,0,true⟩).size else u.size)=joinN u s[0]?:=by
  unfold joinN
  cases s with
  | nil=>rfl
  | cons n s=>simp
 rw [e1];by_cases hp:p.length=0
 · rw [if_pos hp,if_neg (by omega)]
   rfl
 · rw [if_neg hp]
   have hlt:p.length-1<(p++u :: s).length:=by rw [List.length_append];omega
   rw [List.getD_eq_getElem?_getD,List.getElem?_eq_getElem hlt];generalize (p++u :: s)[p.length-1]=v;unfold joinO;simp only [Option.getD_some]
   by_cases hu:v.used=false
   · rw [if_pos ⟨by omega,hu⟩,if_pos hu]
   · rw [if_neg (fun h=>hu h.2),if_neg hu]
theorem heap_free (w:World) (h b bb:Nat) (m:Mem) (lo hi x:Int) (H0:RHp w h b bb m lo hi) :
 Calls Tryz.prog 339 #[.pointer (some ⟨h,0,none⟩),.int .i64 x] w (FreePost h b bb lo hi (Heap.free m lo hi x) w):=by
 have H:=h_ H0;have b0:=H0.lo0;have b1:=H0.lt;have b2:=H0.top;have b3:=H0.mem.le
 have HD:Hid (Heap.free m lo hi x=match Heap.blocks m lo hi with
 | none=>(m,-2052)
 | some l=>if Heap.find l x<0 then (m,-60) else Heap.put m (Heap.join l (Heap.find l x).toNat)):=rfl
 clear H0;generalize Heap.free m lo hi x=r at HD ⊢;have hr:=HD.out;have hbl:=h_ (heap_blocks w h b bb m lo hi H.out);have hmem:=h_ (fun l (e:Heap.blocks m lo hi=some l)=>Heap.blocks_mem e)
 have hlen:=h_ (fun l (e:Heap.blocks m lo hi=some l)=>Heap.from_len m hi _ lo l b1 e)
 generalize Heap.blocks m lo hi=q at hr hbl hmem hlen;clear HD
 cases q with
 | none =>
  simp only at hr
  have HR:=h_ hr;clear hr;unfold BlkPost at hbl
  go_enter Tryz.func339,Tryz.ntmps339
  go_wp2_with fail;refine hbl.out.mono ?_;rintro e w1 ⟨rfl,k1⟩;have K1:=h_ k1;clear k1;go_wp2_with fail;go_ret
  rw [HR.out];exact ⟨rfl,H.out.keeps K1.out id id id,K1.out.mono (fun _ _=>False.elim)⟩
 | some l =>
  simp only at hr
  have HR:=h_ hr;have hlm:=h_ (hmem.out l rfl);have hll:=hlen.out l rfl;have hl6:l.length≤1000000:=by omega
  clear hll hlen hr hmem;unfold BlkPost at hbl;have hF:=h_ fun a c w1 (o:OwnB w.heap.size w1 a c l)=>heap_find w.heap.size w1 a c l x o (fun u hu=>by have:=hlm.out u hu;omega) hl6
  have hfl:=Heap.findN_law x l 0;have hfd:Heap.findN x 0 l=Heap.find l x:=rfl;rw [hfd] at hfl;clear hfd
  rcases hfl with ⟨hf,_⟩ | ⟨p,u,s,hl,hf,hu1,hu2⟩
  · have hr:=HR.out
    rw [if_pos (by omega)] at hr
    have HR':=h_ hr;rw [hf] at hF;clear hr HR hf
    go_enter Tryz.func339,Tryz.ntmps339
    go_wp2_with fail;refine hbl.out.mono ?_;rintro e w1 ⟨a,c,rfl,o1,k1⟩;have K1:=h_ k1;have O1:=h_ o1;clear k1 o1 hbl;go_wp2_with fail;refine (hF.out _ _ _ O1.out).mono ?_;rintro e w2 ⟨rfl,k2⟩;have K2:=h_ (K1.out.trans k2);clear k2;go_wp2_with fail;go_ret
    rw [HR'.out];exact ⟨rfl,H.out.keeps K2.out id id id,K2.out.mono (fun _ _=>False.elim)⟩
  · have hf':Heap.find l x=(p.length:Int):=by omega
    have hr:=HR.out;rw [hf',if_neg (by omega),show ((p.length:Int)).toNat=p.length by omega] at hr
    rw [hf'] at hF
    have hfit:∀ v ∈ l,v.Fit:=fun v hv=>by
     have:=hlm.out v hv;unfold Blk.Fit;omega
    rw [hl,join_joinO,← hl] at hr;rw [hr];have hpl:p.length<l.length:=by rw [hl];simp
    have hpu:l[p.length]=u:=by simp [hl]
    refine free_walk w h b bb m lo hi x H l l.length p.length rfl hl6 hpl hbl hF u (hfit u (by rw [hl];simp)) ?_ _ _ ?_ ?_
    · have:=blkAt l p.length hpl
      rw [hpu] at this;exact this
    · cases s with
      | nil=>simp only [List.getElem?_nil];rw [hl];simp
      | cons n s =>
       simp only [List.getElem?_cons_zero]
       have h1:p.length+1<l.length:=by rw [hl];simp
       refine ⟨h1,hfit n (by rw [hl];simp),?_⟩
       have:=blkAt l (p.length+1) h1
       have e:l[p.length+1]=n:=by
        simp only [hl]
        rw [List.getElem_append_right (by omega)]
        simp
       rw [e] at this;exact this
    · by_cases hp:p.length=0
      · rw [if_pos hp]
        exact hp
      · rw [if_neg hp]
        have h1:p.length-1<l.length:=by omega
        rw [List.getElem?_eq_getElem h1];exact ⟨by omega,hfit _ (List.getElem_mem h1),blkAt l _ h1⟩
end Go.Proofs.Shed
