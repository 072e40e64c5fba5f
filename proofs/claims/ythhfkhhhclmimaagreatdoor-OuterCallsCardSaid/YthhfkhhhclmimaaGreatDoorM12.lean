/- Of CallsG: WHeap, WHeapB, WHeapC. No condition. -/
import Derived.Test.YthhfkhhhclmimaaGreatDoorM03
import Derived.Test.YthhfkhhhclmimaaGreatDoorM11
set_option linter.unusedVariables false
set_option linter.unusedSimpArgs false
set_option maxRecDepth 10000
set_option maxHeartbeats 2000000
namespace Go.Proofs.Shed
open Go Go.RowKit Go.Proofs.K
structure RHp (w:World) (h b bb:Nat) (m:Mem) (lo hi:Int):Prop where
 head:w.heap[h]?=some (.cells #[.pointer (some ⟨b,0,none⟩),.int .i64 lo,.int .i64 hi] 298 (0,0))
 mem:RMem w b bb m
 ne1:h≠b
 ne2:h≠bb
 lo0:0≤lo
 lt:lo≤hi
 top:hi≤m.size
theorem RHp.keeps {w w':World} {h b bb:Nat} {m:Mem} {lo hi:Int} (H:RHp w h b bb m lo hi) {S:Nat→Prop} (k:Keeps S w w') (h0:¬ S h) (h1:¬ S b) (h2:¬ S bb):RHp w' h b bb m lo hi :=
 ⟨k.heap H.head h0,H.mem.keeps k h1 h2,H.ne1,H.ne2,H.lo0,H.lt,H.top⟩
theorem RHp.with {w w':World} {h b bb:Nat} {m m':Mem} {lo hi:Int} (H:RHp w h b bb m lo hi) (hm:RMem w' b bb m') (hs:m'.size=m.size) (k:Keeps (fun j=>j=bb) w w'):RHp w' h b bb m' lo hi :=
 ⟨k.heap H.head H.ne2,hm,H.ne1,H.ne2,H.lo0,H.lt,by rw [hs];exact H.top⟩
theorem RHp.c0 {w:World} {h b bb:Nat} {m:Mem} {lo hi:Int} (H:RHp w h b bb m lo hi):w.cell? ⟨h,0,none⟩=some (.pointer (some ⟨b,0,none⟩)):=cell_of H.head rfl
theorem RHp.c1 {w:World} {h b bb:Nat} {m:Mem} {lo hi:Int} (H:RHp w h b bb m lo hi):w.cell? ⟨h,1,none⟩=some (.int .i64 lo):=cell_of H.head rfl
theorem RHp.c2 {w:World} {h b bb:Nat} {m:Mem} {lo hi:Int} (H:RHp w h b bb m lo hi):w.cell? ⟨h,2,none⟩=some (.int .i64 hi):=cell_of H.head rfl
def Blk.val (x:Blk):Value:=.agg #[.int .i64 x.at_,.int .i64 x.size,.bool x.used]
def Blk.cells (x:Blk):List Value:=[.int .i64 x.at_,.int .i64 x.size,.bool x.used]
def blkV (L:List Blk):List Value:=L.flatMap Blk.cells
theorem blkV_app (P L:List Blk):blkV (P++L)=blkV P++blkV L:=by simp [blkV]
theorem blkV_get (L:List Blk) (i:Nat) (h:i<L.length):(blkV L)[i*3]?=some (.int .i64 L[i].at_)∧(blkV L)[i*3+1]?=some (.int .i64 L[i].size)∧(blkV L)[i*3+2]?=some (.bool L[i].used):=by
 induction L generalizing i with
 | nil=>cases h
 | cons p L ih =>
  have e:blkV (p :: L)=.int .i64 p.at_ :: .int .i64 p.size :: .bool p.used :: blkV L:=rfl;rw [e]
  cases i with
  | zero=>exact ⟨rfl,rfl,rfl⟩
  | succ i =>
   have:=ih i (by simpa using h)
   rw [show (i+1)*3=i*3+3 by omega]
   exact this
theorem heap_put (w:World) (h b bb:Nat) (m:Mem) (lo hi:Int) (x:Blk) (H:RHp w h b bb m lo hi) (h0 : -4611686018427387904≤x.size) (h1:x.size≤4611686018427387904) :
 Calls Tryz.prog 209 #[.pointer (some ⟨h,0,none⟩),x.val] w (SetPost b bb (Heap.put m x) w):=by
 obtain ⟨at_,size,used⟩:=x;have HM:=h_ H.mem;have c0:=H.c0;have hlt:h<w.heap.size:=lt_of_heap H.head;clear H;have K0:=h_ (Keeps.alloc (fun k=>k=bb) w (.cells #[.int .i64 at_,.int .i64 size,.bool used] 301))
 have HM0:=h_ (HM.out.allocd (.cells #[.int .i64 at_,.int .i64 size,.bool used] 301));have D0:=cell_of (i:=0) (halloc_at w (.cells #[.int .i64 at_,.int .i64 size,.bool used] 301)) rfl;have C0:(w.alloc (.cells #[.int .i64 at_,.int .i64 size,.bool used] 301)).cell? ⟨h,0,none⟩=some (.pointer (some ⟨b,0,none⟩)):=(World.cell?_alloc_lt _ _ _ hlt).trans c0;unfold Blk.val;simp only at h0 h1
 cases used with
 | true =>
  have hs:=fun w H=>mem_setCell w b bb m at_ (size+1) H
  have HD:Hid (Heap.put m ⟨at_,size,true⟩=m.setCell at_ (size+1)):=rfl;generalize Heap.put m ⟨at_,size,true⟩=r at HD ⊢;rw [← HD.out] at hs;have HS:=h_ hs;clear hs HD
  go_enter Tryz.func209,Tryz.ntmps209
  go_wp2_with fail;generalize w.alloc (.cells #[.int .i64 at_,.int .i64 size,.bool true] 301)=W1 at HM0 K0 D0 C0 ⊢
  go_still_tail 7,(by kernel_rfl)
  change wpList _ _ _ _ _ (World.drew _)
  go_wp2_with fail;refine (HS.out _ HM0.out.drew).mono ?_;rintro e w1 hp;obtain ⟨rfl,m1,k1⟩:=hp.drew;have K1:=h_ (K0.out.trans k1);have M1:=h_ m1;clear m1 k1;go_wp2_with fail;go_ret
  exact ⟨rfl,M1.out,K1.out⟩
 | false =>
  have hs:=fun w H=>mem_setCell w b bb m at_ size H
  have HD:Hid (Heap.put m ⟨at_,size,false⟩=m.setCell at_ size):=rfl;generalize Heap.put m ⟨at_,size,false⟩=r at HD ⊢;rw [← HD.out] at hs;have HS:=h_ hs;clear hs HD
  go_enter Tryz.func209,Tryz.ntmps209
  go_wp2_with fail;generalize w.alloc (.cells #[.int .i64 at_,.int .i64 size,.bool false] 301)=W1 at HM0 K0 D0 C0 ⊢
  go_still_tail 7,(by kernel_rfl)
  change wpList _ _ _ _ _ (World.drew _)
  go_wp2_with fail;refine (HS.out _ HM0.out.drew).mono ?_;rintro e w1 hp;obtain ⟨rfl,m1,k1⟩:=hp.drew;have K1:=h_ (K0.out.trans k1);have M1:=h_ m1;clear m1 k1;go_wp2_with fail;go_ret
  exact ⟨rfl,M1.out,K1.out⟩
set_option maxHeartbeats 8000000
namespace Heap
theorem blocksN_enough (m:Mem) (hi:Int) (k:Nat) (a:Int) (h:hi-a≤k) (j:Nat) (hj:hi-a≤j):blocksN m hi j a=blocksN m hi k a:=by
 induction k generalizing a j with
 | zero =>
  cases j with
  | zero=>rfl
  | succ j=>rw [blocksN,blocksN,if_neg (by omega)]
 | succ k ih =>
  cases j with
  | zero=>rw [blocksN,blocksN,if_neg (by omega)]
  | succ j =>
   rw [blocksN,blocksN];by_cases h1:a<hi
   · rw [if_pos h1,if_pos h1]
     by_cases h2:(m.cell a).2≠0∨(blk a (m.cell a).1).size<16∨(blk a (m.cell a).1).size % 8≠0∨hi-a<(blk a (m.cell a).1).size
     · rw [if_pos h2,if_pos h2]
     · rw [if_neg h2,if_neg h2,ih _ (by omega) j (by omega)]
   · rw [if_neg h1,if_neg h1]
def from_ (m:Mem) (hi a:Int):Option (List Blk):=blocksN m hi (hi-a).toNat a
theorem from_end (m:Mem) (hi a:Int) (h:¬ a<hi):from_ m hi a=some []:=by
 unfold from_;rw [show (hi-a).toNat=0 by omega]
 rfl
theorem from_step (m:Mem) (hi a:Int) (h:a<hi):from_ m hi a=if (m.cell a).2≠0∨(blk a (m.cell a).1).size<16∨(blk a (m.cell a).1).size % 8≠0∨hi-a<(blk a (m.cell a).1).size then none
 else (from_ m hi (a+(blk a (m.cell a).1).size)).map (blk a (m.cell a).1 :: ·):=by
 unfold from_;obtain ⟨k,hk⟩:∃ k,(hi-a).toNat=k+1:=⟨(hi-a).toNat-1,by omega⟩
 rw [hk,blocksN,if_pos h];by_cases h2:(m.cell a).2≠0∨(blk a (m.cell a).1).size<16∨(blk a (m.cell a).1).size % 8≠0∨hi-a<(blk a (m.cell a).1).size
 · rw [if_pos h2,if_pos h2]
 · rw [if_neg h2,if_neg h2,blocksN_enough m hi (hi-(a+(blk a (m.cell a).1).size)).toNat _ (by omega) k (by omega)]
end Heap
theorem infoBlk:(Tryz.prog.info? 301).map (fun i=>(i.zero,i.size,i.bytes))=some (some (.agg #[.int .i64 0,.int .i64 0,.bool false]),3,24):=by kernel_rfl
def OwnB (B:Nat) (w:World) (a:Option Addr) (c:Nat) (L:List Blk):Prop:=Own w 301 3 a L.length c (blkV L)∧∀ g,blk a=some g→B≤g
theorem OwnB.keeps {B:Nat} {w w':World} {a:Option Addr} {c:Nat} {L:List Blk} (h:OwnB B w a c L) {S:Nat→Prop} (k:Keeps S w w') (hs:∀ g,blk a=some g→¬ S g):OwnB B w' a c L:=⟨h.1.keeps k hs,h.2⟩
theorem OwnB.more {B:Nat} {w w':World} {a a':Option Addr} {c c':Nat} {L:List Blk} (h:OwnB B w a c L) (x:Blk) (o:Own w' 301 3 a' (L.length+1) c' (blkV L++x.cells)) (k:Nat) (l:blk a'=blk a∨blk a'=some k) (hk:B≤k):OwnB B w' a' c' (L++[x]):=by
 refine ⟨?_,?_⟩
 · rw [blkV_app,List.length_append]
   have:blkV [x]=x.cells:=by simp [blkV]
   rw [this];exact o
 · intro g hg
   rcases l with e | e <;> rw [e] at hg
   · exact h.2 g hg
   · cases hg;exact hk
def BlkPost (r:Option (List Blk)) (w:World) (e:Ending) (w':World):Prop :=
 match r with
 | none=>e=.returned (.tuple #[.slice none 0 0,.int .i64 (-2052)])∧Keeps (fun _=>False) w w'
 | some L=>∃ a c,e=.returned (.tuple #[.slice a L.length c,.int .i64 0])∧OwnB w.heap.size w' a c L∧Keeps (fun _=>False) w w'
theorem blk_news (w:World) (x:Blk):∀ j u,x.cells[j]?=some u→(w.alloc (.cells #[.int .i64 x.at_,.int .i64 x.size,.bool x.used] 301)).cell? ((⟨w.heap.size,0,none⟩:Addr).add j)=some u:=by
 intro j u hu;rw [Addr.add_lit,Nat.zero_add];refine cell_of (halloc_at _ _) ?_;simpa [Blk.cells] using hu
theorem blk_one (x:Blk):∀ u ∈ x.cells,u.oneCell'=true:=by
 intro u hu;simp [Blk.cells] at hu
 rcases hu with rfl | rfl | rfl <;> rfl
theorem heap_blocks (w:World) (h b bb:Nat) (m:Mem) (lo hi:Int) (H0:RHp w h b bb m lo hi) :
 Calls Tryz.prog 279 #[.pointer (some ⟨h,0,none⟩)] w (BlkPost (Heap.blocks m lo hi) w):=by
 have H:=h_ H0;have c1:=H0.c1;have b0:=H0.lo0;have b1:=H0.lt;have b2:=H0.top;have b3:=H0.mem.le;clear H0;have HD:Hid (Heap.blocks m lo hi=Heap.from_ m hi lo):=rfl;generalize Heap.blocks m lo hi=r at HD ⊢
 go_enter Tryz.func279,Tryz.ntmps279
 go_wp2_with fail
 go_loopw [4,5] (fun ov iv wr=>∃ (P:List Blk) (a:Option Addr) (c:Nat) (i:Int),ov=.slice a P.length c∧iv=.int .i64 i∧lo≤i∧i≤hi∧16*P.length≤i-lo∧OwnB w.heap.size wr a c P∧Keeps (fun _=>False) w wr∧(Heap.from_ m hi i).map (P++·)=r)
  (fun _ iv _=>(hi-intOf iv).toNat)
 case atStart=>exact ⟨[],none,0,lo,rfl,rfl,by omega,by omega,by simp,⟨Own.nil _ _ _,fun g hg=>(by cases hg)⟩,Keeps.refl _ _,by rw [HD.out];simp⟩
 case round =>
  obtain ⟨P,a,c,i,rfl,rfl,i0,i1,i2,ho,hk,hf⟩:=hrel;have HO:=h_ ho;have HK:=h_ hk;have HR:=h_ (H.out.keeps hk id id id);have c0':=HR.out.c0;have c2':=HR.out.c2;clear ho hk;by_cases hlt:i<hi
  · rw [Heap.from_step m hi i hlt] at hf
    have hc:=h_ (mem_cell wr b bb m i HR.out.mem);have hcb:=m.cell_bd i;generalize m.cell i=q at hc hcb hf;obtain ⟨n,e⟩:=q;simp only at hc hcb hf
    obtain ⟨n0,n1⟩:=hcb;have e1:=andNot_1 n n0 n1;have e2:=and_1 n;have hz:n-n % 2≤9223372036854775807 ∧ -9223372036854775808≤n-n % 2:=by omega
    have hbk:Heap.blk i n=⟨i,n-n % 2,decide (n % 2=1)⟩:=rfl;rw [hbk] at hf;have hu:decide (n % 2=1)=(n % 2 == 1):=rfl;rw [hu] at hf;clear hbk hu;generalize n-n % 2=z at e1 hf hz;generalize (n % 2)=v at e2 hf;generalize hv:(v == 1)=u at hf;have KA:=h_ (HK.out.trans (ka_ wr (.cells #[.int .i64 i,.int .i64 z,.bool u] 301)));have D0:=cell_of (i:=0) (halloc_at wr (.cells #[.int .i64 i,.int .i64 z,.bool u] 301)) rfl;have D1:=cell_of (i:=1) (halloc_at wr (.cells #[.int .i64 i,.int .i64 z,.bool u] 301)) rfl;have D2:=cell_of (i:=2) (halloc_at wr (.cells #[.int .i64 i,.int .i64 z,.bool u] 301)) rfl;have HA:=h_ (HR.out.keeps (ka_ wr (.cells #[.int .i64 i,.int .i64 z,.bool u] 301)) id id id);have C2:=HA.out.c2;have OA:=h_ (HO.out.keeps (ka_ wr (.cells #[.int .i64 i,.int .i64 z,.bool u] 301)) (fun _ _=>id))
    dsimp only at hf;have HF:=h_ hf;clear hf;by_cases he:e=0
    · subst he
      by_cases h16:z<16
      · have d1:decide (z<16)=true:=decide_eq_true h16
        have hr:=HF.out;rw [if_pos (by omega)] at hr
        have HR':=h_ (show r=none from hr.symm)
        clear hr;go_wp2_with fail;refine hc.out.mono ?_;rintro e w1 ⟨rfl,rfl⟩;go_wp2_with fail;generalize wr.alloc (.cells #[.int .i64 i,.int .i64 z,.bool u] 301)=W1 at KA D0 D1 D2 C2 HA OA ⊢
        go_quiet (fail)
        go_wp2_with fail;go_ret2
        rw [HR'.out];exact ⟨rfl,KA.out.trans (Keeps.drewN _ _ _)⟩
      · have d1:decide (z<16)=false:=decide_eq_false h16
        have h16':0≤z:=by omega
        by_cases h8:z % 8=0
        · have d2:(z % 8 != 0)=false:=by simp [h8]
          by_cases hh:hi-i<z
          · have d3:decide (hi-i<z)=true:=decide_eq_true hh
            have hr:=HF.out;rw [if_pos (by omega)] at hr
            have HR':=h_ (show r=none from hr.symm)
            clear hr;go_wp2_with fail;refine hc.out.mono ?_;rintro e w1 ⟨rfl,rfl⟩;go_wp2_with fail;generalize wr.alloc (.cells #[.int .i64 i,.int .i64 z,.bool u] 301)=W1 at KA D0 D1 D2 C2 HA OA ⊢
            go_quiet (fail)
            go_wp2_with fail;go_ret2
            rw [HR'.out];exact ⟨rfl,KA.out.trans (Keeps.drewN _ _ _)⟩
          · have d3:decide (hi-i<z)=false:=decide_eq_false hh
            have hr:=HF.out;rw [if_neg (by omega)] at hr
            have HR':=h_ hr;clear hr;go_wp2_with fail;refine hc.out.mono ?_;rintro e w1 ⟨rfl,rfl⟩;go_wp2_with fail;generalize hW1:wr.alloc (.cells #[.int .i64 i,.int .i64 z,.bool u] 301)=W1 at KA D0 D1 D2 C2 HA OA ⊢;have hs1:W1.heap.size=wr.heap.size+1:=by rw [← hW1,World.size_alloc]
            have hw0:w.heap.size≤wr.heap.size:=HK.out.size;clear hW1
            go_quiet (fail)
            have KB:=h_ (KA.out.trans (Keeps.drewN _ W1 nq));have OB:=h_ (OA.out.keeps (Keeps.drewN (fun _=>False) W1 nq) (fun _ _=>id))
            have E0:(W1.drewN nq).cell? ⟨wr.heap.size,0,none⟩=_:=D0;have E1:(W1.drewN nq).cell? ⟨wr.heap.size,1,none⟩=_:=D1;have E2:(W1.drewN nq).cell? ⟨wr.heap.size,2,none⟩=_:=D2;have hs2:(W1.drewN nq).heap.size=wr.heap.size+1:=hs1;generalize W1.drewN nq=W2 at KB OB E0 E1 E2 hs2 ⊢;have HS2:=h_ hs2;clear hs2 hs1
            go_wp2_with (first
             | (at_builtin;refine wpList_app rfl _ _ 342 rfl 301 _ 3 24 Tryz.underlying342 infoBlk rfl (by decide) a P.length c (blkV P) rfl ?f1 ⟨W2.heap.size,0,none⟩ 1 1 [.int .i64 i,.int .i64 z,.bool u] rfl rfl (blk_news W2 ⟨i,z,u⟩) (blk_one ⟨i,z,u⟩) ?f3 ?f4 ?_))
            case f1=>exact (OB.out.keeps (ka_ W2 _) (fun _ _=>id)).1
            case f3=>unfold maxLen;omega
            case f4=>omega
            intro a4 c4 w4 o4 k4 l4;have ka:=ka_ W2 (.cells #[.int .i64 i,.int .i64 z,.bool u] 301);have hww:w.heap.size≤W2.heap.size:=by have:=HS2.out;omega
            have E1':=k4.cell (ka.cell E1 id) (show ¬ blk a=some wr.heap.size from fun e=>absurd (HO.out.1.lt e) (Nat.lt_irrefl _))
            have O4:=h_ ((OB.out.keeps ka (fun _ _=>id)).more ⟨i,z,u⟩ o4 _ l4 (by omega))
            have K4:=h_ ((KB.out.trans ka).trans' k4 (fun i hi e=>absurd (OB.out.2 i e) (by omega)))
            clear ka o4 k4 l4;go_wp2_with fail
            go_roundw
            case rel =>
             refine ⟨P++[⟨i,z,u⟩],a4,c4,i+z,by rw [List.length_append];rfl,by go_num,by omega,by omega,by rw [List.length_append,List.length_singleton];omega,O4.out,K4.out,?_⟩
             rw [← HR'.out,Option.map_map];congr 1
             funext l
             simp
            case measure=>simp [intOf];omega
        · have d2:(z % 8 != 0)=true:=by simp [h8]
          have hr:=HF.out;rw [if_pos (by omega)] at hr
          have HR':=h_ (show r=none from hr.symm)
          clear hr;go_wp2_with fail;refine hc.out.mono ?_;rintro e w1 ⟨rfl,rfl⟩;go_wp2_with fail;generalize wr.alloc (.cells #[.int .i64 i,.int .i64 z,.bool u] 301)=W1 at KA D0 D1 D2 C2 HA OA ⊢
          go_quiet (fail)
          go_wp2_with fail;go_ret2
          rw [HR'.out];exact ⟨rfl,KA.out.trans (Keeps.drewN _ _ _)⟩
    · have he':(e != 0)=true:=by simp [he]
      have hr:=HF.out;rw [if_pos (by omega)] at hr
      have HR':=h_ (show r=none from hr.symm)
      clear hr;go_wp2_with fail;refine hc.out.mono ?_;rintro e w1 ⟨rfl,rfl⟩;go_wp2_with fail;generalize wr.alloc (.cells #[.int .i64 i,.int .i64 z,.bool u] 301)=W1 at KA D0 D1 D2 C2 HA OA ⊢
      go_quiet (fail)
      go_wp2_with fail;go_ret2
      rw [HR'.out];exact ⟨rfl,KA.out.trans (Keeps.drewN _ _ _)⟩
  · rw [Heap.from_end m hi i hlt] at hf
    have HF:=h_ hf;clear hf;go_wp2_with fail;go_ret2
    rw [← HF.out];exact ⟨a,c,by simp,by simpa using HO.out,HK.out⟩
namespace Heap
theorem from_mem (m:Mem) (hi:Int) (k:Nat) (a:Int) (l:List Blk) (h:blocksN m hi k a=some l):∀ b ∈ l,a≤b.at_∧b.at_+b.size≤hi∧16≤b.size:=by
 induction k generalizing a l with
 | zero =>
  rw [blocksN] at h
  cases h
  intro b hb
  cases hb
 | succ k ih =>
  rw [blocksN] at h;by_cases h1:a<hi
  · rw [if_pos h1] at h
    by_cases h2:(m.cell a).2≠0∨(blk a (m.cell a).1).size<16∨(blk a (m.cell a).1).size % 8≠0∨hi-a<(blk a (m.cell a).1).size
    · rw [if_pos h2] at h;cases h
    · rw [if_neg h2] at h
      cases hq:blocksN m hi k (a+(blk a (m.cell a).1).size) with
      | none=>rw [hq] at h;cases h
      | some q =>
       rw [hq] at h;simp only [Option.map_some,Option.some.injEq] at h
       subst h;have e:(blk a (m.cell a).1).at_=a:=rfl;intro b hb
       rcases List.mem_cons.1 hb with rfl | hb
       · omega
       · have:=ih _ _ hq b hb
         omega
  · rw [if_neg h1] at h
    cases h
    intro b hb
    cases hb
theorem blocks_mem {m:Mem} {lo hi:Int} {l:List Blk} (h:blocks m lo hi=some l):∀ b ∈ l,lo≤b.at_∧b.at_+b.size≤hi∧16≤b.size:=from_mem m hi _ lo l h
end Heap
def HpNewPost (b bb:Nat) (r:Mem × Int) (lo hi:Int) (w:World) (e:Ending) (w':World):Prop :=
 ∃ h,e=.returned (.tuple #[.pointer (some ⟨h,0,none⟩),.int .i64 r.2])∧RHp w' h b bb r.1 lo hi∧w.heap.size≤h∧Keeps (fun k=>k=bb) w w'
theorem heap_new (w:World) (b bb:Nat) (m:Mem) (lo hi:Int) (H:RMem w b bb m) (h0:0≤lo) (h1:lo % 8=0) (h2:hi % 8=0) (h3:hi≤m.size) (h4:16≤hi-lo) :
 Calls Tryz.prog 123 #[.pointer (some ⟨b,0,none⟩),.int .i64 lo,.int .i64 hi] w (HpNewPost b bb (Heap.put m ⟨lo,hi-lo,false⟩) lo hi w):=by
 have hle:=H.le;have hlt:=H.lt;have e1:(lo % 8 != 0)=false:=by simp [h1]
 have e2:(hi % 8 != 0)=false:=by simp [h2]
 have e3:decide ((m.size:Int)<hi)=false:=decide_eq_false (by omega)
 have hA:RHp (w.alloc (.cells #[.pointer (some ⟨b,0,none⟩),.int .i64 lo,.int .i64 hi] 298)) w.heap.size b bb m lo hi :=
  ⟨halloc_at _ _,H.allocd _,by omega,by omega,h0,by omega,h3⟩
 have hp:=heap_put _ _ _ _ _ _ _ ⟨lo,hi-lo,false⟩ hA (by simp only;omega) (by simp only;omega)
 have hs:=mem_size w b bb m H;have hz:=Mem.setCell_size m lo (hi-lo);have HD:Hid ((Heap.put m ⟨lo,hi-lo,false⟩).1.size=m.size):=hz;have HA:=h_ hA;unfold Blk.val at hp;simp only at hp
 generalize Heap.put m ⟨lo,hi-lo,false⟩=r at hp HD ⊢;have HP:=h_ hp;have HS:=h_ hs;clear hA hp hs hz H h1 h2
 go_enter Tryz.func123,Tryz.ntmps123
 go_wp2_with fail;refine HS.out.mono ?_;rintro e w1 ⟨rfl,rfl⟩;go_wp2_with fail;refine HP.out.mono ?_;rintro e w1 ⟨rfl,m1,k1⟩;have M1:=h_ m1;have K1:=h_ k1;clear m1 k1;go_wp2_with fail;go_ret2
 exact ⟨w.heap.size,rfl,HA.out.with M1.out HD.out K1.out,Nat.le_refl _,((Keeps.alloc _ _ _).trans K1.out)⟩
theorem heap_need (w:World) (n:Int) (h0:0≤n) (h1:n≤1048576):Calls Tryz.prog 414 #[.int .i64 n] w fun e w'=>e=.returned (.int .i64 (Heap.need n))∧w=w':=by
 have e1:=andNot_7 (n+15) (by omega) (by omega)
 have e2:n+15-(n+15) % 8=(n+15) / 8*8:=by omega
 rw [e2] at e1;have HN:Hid (Heap.need n=if 16<(n+15) / 8*8 then (n+15) / 8*8 else 16):=rfl
 have e3:n+16-1=n+15:=by omega
 clear e2;generalize (n+15) / 8*8=q at e1 HN;generalize Heap.need n=r at HN ⊢;by_cases hq:16<q
 · have hr:=HN.out
   rw [if_pos hq] at hr;subst hr
   go_enter Tryz.func414,Tryz.ntmps414
   go_wp2_with fail;go_ret
   first | exact ⟨rfl,rfl⟩ | (refine ⟨?_,rfl⟩;show Ending.returned (.int .i64 (max 16 r))=_;rw [Int.max_eq_right (by omega)])
 · have hr:=HN.out
   rw [if_neg hq] at hr;subst hr
   go_enter Tryz.func414,Tryz.ntmps414
   go_wp2_with fail;go_ret
   first | exact ⟨rfl,rfl⟩ | (refine ⟨?_,rfl⟩;show Ending.returned (.int .i64 (max 16 q))=_;rw [Int.max_eq_left (by omega)])
end Go.Proofs.Shed
