/- Of CallsG: WSrc, WRfC. No condition. -/
import Derived.Test.YthhfkhhhclmimaaGreatDoorM03
import Derived.Test.YthhfkhhhclmimaaGreatDoorM20
import Derived.Deep.CutBlock
set_option linter.unusedVariables false
set_option linter.unusedSimpArgs false
set_option maxRecDepth 10000
set_option maxHeartbeats 4000000
namespace Go.Proofs.Shed
open Go Go.RowKit Go.Proofs.K
structure RSrc (w:World) (q:Nat) (s:List UInt8) (n:Nat):Prop where
 head:w.heap[q]?=some (.cells #[.string ⟨s.toArray⟩,.int .i64 (n:Int)] 172 (0,0))
 le:n≤s.length
 small:s.length≤1099511627776
theorem RSrc.keeps {w w':World} {q:Nat} {s:List UInt8} {n:Nat} (h:RSrc w q s n) {S:Nat→Prop} (k:Keeps S w w') (h0:¬ S q):RSrc w' q s n:=⟨k.heap h.head h0,h.le,h.small⟩
theorem RSrc.at_ {w:World} {q:Nat} {s:List UInt8} {n:Nat} (h:RSrc w q s n) (m:Nat) (hm:m≤s.length):RSrc (w.setCell ⟨q,1,none⟩ (.int .i64 (m:Int))) q s m:=⟨hset_same h.head _,hm,h.small⟩
theorem src_new (w:World) (s:List UInt8) (hs:s.length≤1099511627776):Calls Tryz.prog 74 #[.string ⟨s.toArray⟩] w fun e w'=>e=.returned (.pointer (some ⟨w.heap.size,0,none⟩))∧RSrc w' w.heap.size s 0∧Keeps (fun _=>False) w w':=by
 have HS:=h_ hs;clear hs
 go_enter Tryz.func74,Tryz.ntmps74
 go_wp2_with fail;go_ret
 exact ⟨rfl,⟨halloc_at w _,Nat.zero_le _,HS.out⟩,Keeps.alloc _ _ _⟩
theorem src_blank (w:World) (c:UInt8):Calls Tryz.prog 141 #[.int .u8 (c.toNat:Int)] w fun e w'=>e=.returned (.bool (Src.blank c))∧Keeps (fun _=>False) w w':=by
 have HB:Hid (Src.blank c=decide (c.toNat≤32)):=rfl;generalize Src.blank c=r at HB ⊢;generalize c.toNat=x at HB ⊢;by_cases h:x≤32
 · have d1:decide ((x:Int)≤32)=true:=decide_eq_true (by omega)
   go_enter Tryz.func141,Tryz.ntmps141
   go_wp2_with fail;go_ret
   refine ⟨?_,Keeps.refl _ _⟩;rw [HB.out,decide_eq_true h];rfl
 · have d1:decide ((x:Int)≤32)=false:=decide_eq_false (by omega)
   go_enter Tryz.func141,Tryz.ntmps141
   go_wp2_with fail;go_ret
   refine ⟨?_,Keeps.refl _ _⟩;rw [HB.out,decide_eq_false h];rfl
def srcAt (w:World) (q:Nat):Nat:=match w.cell? ⟨q,1,none⟩ with
 | some v=>(intOf v).toNat
 | none=>0
theorem RSrc.at_is {w:World} {q:Nat} {s:List UInt8} {n:Nat} (h:RSrc w q s n):srcAt w q=n:=by
 unfold srcAt;rw [cell_of (i:=1) h.head rfl];simp [intOf]
theorem str_extract (s:List UInt8) (i j:Nat) (hij:i≤j):Value.string ((⟨s.toArray⟩:ByteArray).extract i j)=.string ⟨((s.drop i).take (j-i)).toArray⟩:=by
 congr 1
 apply ByteArray.ext
 rw [ByteArray.data_extract];apply Array.ext'
 simp [List.take_drop]
theorem src_word (w:World) (q:Nat) (s:List UInt8) (n:Nat) (h:RSrc w q s n) :
 Calls Tryz.prog 76 #[.pointer (some ⟨q,0,none⟩)] w fun e w'=>e=.returned (.string ⟨(Src.word s n).1.toArray⟩)∧RSrc w' q s (Src.word s n).2∧Keeps (fun g=>g=q) w w':=by
 have H:=h_ h;have hsm:=h.small;have hle:=h.le;clear h
 go_enter Tryz.func76,Tryz.ntmps76
 go_upto_block 0 with (fail)
 go_cut [] (fun wx=>∃ i,Src.skip s n=i∧RSrc wx q s i∧Keeps (fun g=>g=q) w wx)
 case first =>
  go_wp2_with fail
  go_loopw [] (fun wr=>∃ i:Nat,n≤i∧RSrc wr q s i∧(∀ k (hk:k<s.length),n≤k→k<i→Src.blank s[k]=true)∧Keeps (fun g=>g=q) w wr) (fun wr=>s.length-srcAt wr q)
  case atStart=>exact ⟨n,Nat.le_refl _,H.out,fun k hk h1 h2=>by omega,Keeps.refl _ _⟩
  case round =>
   obtain ⟨i,hni,hr,hb,hk⟩:=hrel;have hil:=hr.le;have HR:=h_ hr;have HB:=h_ hb;have HK:=h_ hk;have x0:=fun (p:Stay wr)=>p.2.cell (cell_of (i:=0) hr.head rfl) id
   have x1:=fun (p:Stay wr)=>p.2.cell (cell_of (i:=1) hr.head rfl) id
   clear hr hb hk;by_cases hlt:i<s.length
   · have hi0:(0:Int)≤(i:Int):=by omega
     have hi1:(i:Int)<(s.length:Int):=by omega
     have d1:decide ((i:Int)<(s.length:Int))=true:=decide_eq_true hi1;have hbl:=h_ fun (p:Stay wr)=>src_blank p.1 s[i]
     generalize hsb:Src.blank s[i]=r at hbl;have HSB:=h_ hsb;clear hsb;go_wp2_with fail;refine Go.Proofs.K.wp_region_calm ?calm1a ?calm1b ?_
     case calm1a=>kernel_rfl
     case calm1b=>kernel_rfl
     repeat ((with_reducible refine wpQuiet_step ?_);intro Kq hKq;go_simp;first | ((with_reducible refine hKq _ ?_);clear hKq Kq) | (refine hKq _ ?_;clear hKq Kq) | (apply Exists.intro;refine ⟨fun _=>?_,hKq _ ?_⟩;(exact K.calm_of (hbl.out _));clear hKq Kq))
     with_reducible refine wpQuiet_nil ?_
     intro v1 hw';obtain ⟨⟨wq,kq⟩,hw''⟩:=hw';subst hw'';have KV:=h_ kq;clear kq x0 x1 hbl;have c1:=cell_of (i:=1) (HR.out.keeps KV.out id).head rfl;have f1:=free_of (i:=1) (HR.out.keeps KV.out id).head
     cases r with
     | true =>
      have R2:=h_ ((HR.out.keeps KV.out id).at_ (i+1) (by omega))
      have K2:=h_ ((HK.out.trans (KV.out.mono (fun _ _ e=>e.elim))).trans (Keeps.setCell (S:=fun g=>g=q) v1 ⟨q,1,none⟩ (.int .i64 (((i+1:Nat):Nat):Int)) (fun _=>rfl)))
      go_wp2_with fail
      go_roundw
      case rel=>exact ⟨i+1,by omega,R2.out,fun k hk h1 h2=>by
       by_cases hki:k=i
       · subst hki;exact HSB.out
       · exact HB.out k hk h1 (by omega),K2.out⟩
      case measure =>
       have e1:=R2.out.at_is;have e2:=HR.out.at_is
       push_cast at e1
       rw [e1,e2];omega
     | false =>
      have hsk:Src.skip s n=i:=Src.skip_is s n i hni hil HB.out (.inr ⟨hlt,HSB.out⟩);have HSK:=h_ hsk;clear hsk;go_wp2_with fail
      go_meet
      exact ⟨i,HSK.out,HR.out.keeps KV.out id,HK.out.trans (KV.out.mono (fun _ _ e=>e.elim))⟩
   · have hge:i=s.length:=by omega
     have hsk:Src.skip s n=i:=Src.skip_is s n i hni hil HB.out (.inl hge);have HSK:=h_ hsk;have d1:decide ((i:Int)<(s.length:Int))=false:=decide_eq_false (by omega)
     clear hsk hge;go_wp2_with fail;refine Go.Proofs.K.wp_region_calm ?calm2a ?calm2b ?_
     case calm2a=>kernel_rfl
     case calm2b=>kernel_rfl
     repeat ((with_reducible refine wpQuiet_step ?_);intro Kq hKq;go_simp;first | ((with_reducible refine hKq _ ?_);clear hKq Kq) | (refine hKq _ ?_;clear hKq Kq) | (apply Exists.intro;refine ⟨fun _=>?_,hKq _ ?_⟩;(fail);clear hKq Kq))
     with_reducible refine wpQuiet_nil ?_
     intro v1 hw';obtain ⟨⟨wq,kq⟩,hw''⟩:=hw';subst hw'';have KV:=h_ kq;clear kq x0 x1;go_wp2_with fail
     go_meet
     exact ⟨i,HSK.out,HR.out.keeps KV.out id,HK.out.trans (KV.out.mono (fun _ _ e=>e.elim))⟩
 case rest =>
  obtain ⟨i0,hi0s,hr1,hk1⟩:=hcut;have H1:=h_ hr1;have K1:=h_ hk1;have HI0:=h_ hi0s;have hil0:=hr1.le;have c1:=cell_of (i:=1) hr1.head rfl;clear hr1 hk1 hi0s
  go_upto_block 2 with (fail)
  clear c1
  go_cut [] (fun wx=>∃ j,i0≤j∧Src.word s n=((s.drop i0).take (j-i0),if (s.drop j).head?.any (fun c=>decide (c.toNat≠10)) then j+1 else j)∧RSrc wx q s j∧Keeps (fun g=>g=q) w wx)
  case first =>
   go_wp2_with fail
   go_loopw [] (fun wr=>∃ i:Nat,i0≤i∧RSrc wr q s i∧(∀ k (hk:k<s.length),i0≤k→k<i→Src.blank s[k]=false)∧Keeps (fun g=>g=q) w wr) (fun wr=>s.length-srcAt wr q)
   case atStart=>exact ⟨i0,Nat.le_refl _,H1.out,fun k hk h1 h2=>by omega,K1.out⟩
   case round =>
    obtain ⟨i,hni,hr,hb,hk⟩:=hrel;have hil:=hr.le;have HR:=h_ hr;have HB:=h_ hb;have HK:=h_ hk;have x0:=fun (p:Stay wr)=>p.2.cell (cell_of (i:=0) hr.head rfl) id
    have x1:=fun (p:Stay wr)=>p.2.cell (cell_of (i:=1) hr.head rfl) id
    clear hr hb hk;by_cases hlt:i<s.length
    · have hi0:(0:Int)≤(i:Int):=by omega
      have hi1:(i:Int)<(s.length:Int):=by omega
      have d1:decide ((i:Int)<(s.length:Int))=true:=decide_eq_true hi1;have hbl:=h_ fun (p:Stay wr)=>src_blank p.1 s[i]
      generalize hsb:Src.blank s[i]=r at hbl;have HSB:=h_ hsb;clear hsb;go_wp2_with fail;refine Go.Proofs.K.wp_region_calm ?calm3a ?calm3b ?_
      case calm3a=>kernel_rfl
      case calm3b=>kernel_rfl
      repeat ((with_reducible refine wpQuiet_step ?_);intro Kq hKq;go_simp;first | ((with_reducible refine hKq _ ?_);clear hKq Kq) | (refine hKq _ ?_;clear hKq Kq) | (apply Exists.intro;refine ⟨fun _=>?_,hKq _ ?_⟩;(exact K.calm_of (hbl.out _));clear hKq Kq))
      with_reducible refine wpQuiet_nil ?_
      intro v1 hw';obtain ⟨⟨wq,kq⟩,hw''⟩:=hw';subst hw'';have KV:=h_ kq;clear kq x0 x1 hbl;have c1:=cell_of (i:=1) (HR.out.keeps KV.out id).head rfl;have f1:=free_of (i:=1) (HR.out.keeps KV.out id).head
      cases r with
      | false =>
       have R2:=h_ ((HR.out.keeps KV.out id).at_ (i+1) (by omega))
       have K2:=h_ ((HK.out.trans (KV.out.mono (fun _ _ e=>e.elim))).trans (Keeps.setCell (S:=fun g=>g=q) v1 ⟨q,1,none⟩ (.int .i64 (((i+1:Nat):Nat):Int)) (fun _=>rfl)))
       go_wp2_with fail
       go_roundw
       case rel=>exact ⟨i+1,by omega,R2.out,fun k hk h1 h2=>by
        by_cases hki:k=i
        · subst hki;exact HSB.out
        · exact HB.out k hk h1 (by omega),K2.out⟩
       case measure =>
        have e1:=R2.out.at_is;have e2:=HR.out.at_is
        push_cast at e1
        rw [e1,e2];omega
      | true =>
       have hsk:Src.word s n=((s.drop i0).take (i-i0),if (s.drop i).head?.any (fun c=>decide (c.toNat≠10)) then i+1 else i):=Src.word_is s n i0 i HI0.out hni hil HB.out (.inr ⟨hlt,HSB.out⟩)
       have HSK:=h_ hsk;clear hsk;go_wp2_with fail
       go_meet
       exact ⟨i,hni,HSK.out,HR.out.keeps KV.out id,HK.out.trans (KV.out.mono (fun _ _ e=>e.elim))⟩
    · have hge:i=s.length:=by omega
      have hsk:Src.word s n=((s.drop i0).take (i-i0),if (s.drop i).head?.any (fun c=>decide (c.toNat≠10)) then i+1 else i):=Src.word_is s n i0 i HI0.out hni hil HB.out (.inl hge)
      have HSK:=h_ hsk;have d1:decide ((i:Int)<(s.length:Int))=false:=decide_eq_false (by omega)
      clear hsk hge;go_wp2_with fail;refine Go.Proofs.K.wp_region_calm ?calm4a ?calm4b ?_
      case calm4a=>kernel_rfl
      case calm4b=>kernel_rfl
      repeat ((with_reducible refine wpQuiet_step ?_);intro Kq hKq;go_simp;first | ((with_reducible refine hKq _ ?_);clear hKq Kq) | (refine hKq _ ?_;clear hKq Kq) | (apply Exists.intro;refine ⟨fun _=>?_,hKq _ ?_⟩;(fail);clear hKq Kq))
      with_reducible refine wpQuiet_nil ?_
      intro v1 hw';obtain ⟨⟨wq,kq⟩,hw''⟩:=hw';subst hw'';have KV:=h_ kq;clear kq x0 x1;go_wp2_with fail
      go_meet
      exact ⟨i,hni,HSK.out,HR.out.keeps KV.out id,HK.out.trans (KV.out.mono (fun _ _ e=>e.elim))⟩
  case rest =>
   obtain ⟨j,hij,hwd,hr2,hk2⟩:=hcut;have hjl:=hr2.le;have HX:=h_ (str_extract s i0 j hij);have hi0:(0:Int)≤(i0:Int):=by omega
   have hij0:(i0:Int)≤(j:Int):=by omega
   have hjl0:(j:Int)≤(s.length:Int):=by omega
   have hj0:(0:Int)≤(j:Int):=by omega
   have WD:=h_ hwd;have H2:=h_ hr2;have K2:=h_ hk2;have x0:=fun (p:Stay wc)=>p.2.cell (cell_of (i:=0) hr2.head rfl) id
   have x1:=fun (p:Stay wc)=>p.2.cell (cell_of (i:=1) hr2.head rfl) id
   clear hwd hr2 hk2;go_wp2_with fail;refine Go.Proofs.K.wp_region_calm ?calm5a ?calm5b ?_
   case calm5a=>kernel_rfl
   case calm5b=>kernel_rfl
   repeat ((with_reducible refine wpQuiet_step ?_);intro Kq hKq;go_simp;first | ((with_reducible refine hKq _ ?_);clear hKq Kq) | (refine hKq _ ?_;clear hKq Kq) | (apply Exists.intro;refine ⟨fun _=>?_,hKq _ ?_⟩;(fail);clear hKq Kq))
   with_reducible refine wpQuiet_nil ?_
   intro v1 hw';obtain ⟨⟨wq,kq⟩,hw''⟩:=hw';subst hw'';have KV:=h_ kq;clear kq x0 x1;have x0:=fun (p:Stay v1)=>p.2.cell (cell_of (i:=0) (H2.out.keeps KV.out id).head rfl) id
   have x1:=fun (p:Stay v1)=>p.2.cell (cell_of (i:=1) (H2.out.keeps KV.out id).head rfl) id
   rw [HX.out];by_cases hlt:j<s.length
   · have hj1:(j:Int)<(s.length:Int):=by omega
     have d1:decide ((j:Int)<(s.length:Int))=true:=decide_eq_true hj1;by_cases hnl:s[j].toNat=10
     · have d2:((((⟨s.toArray⟩:ByteArray)[j]'hlt).toNat:Int) != 10)=false:=by
        show ((s[j].toNat:Int) != 10)=false
        simp [hnl]
       have hw:Src.word s n=((s.drop i0).take (j-i0),j):=by
        rw [WD.out];congr 1
        rw [List.drop_eq_getElem_cons hlt,List.head?_cons];simp [hnl]
       have HW:=h_ hw;clear hw hnl;go_wp2_with fail;refine Go.Proofs.K.wp_region_calm ?calm6a ?calm6b ?_
       case calm6a=>kernel_rfl
       case calm6b=>kernel_rfl
       repeat ((with_reducible refine wpQuiet_step ?_);intro Kq hKq;go_simp;first | ((with_reducible refine hKq _ ?_);clear hKq Kq) | (refine hKq _ ?_;clear hKq Kq) | (apply Exists.intro;refine ⟨fun _=>?_,hKq _ ?_⟩;(fail);clear hKq Kq))
       with_reducible refine wpQuiet_nil ?_
       intro v2 hw';obtain ⟨⟨wq,kq⟩,hw''⟩:=hw';subst hw'';have KV2:=h_ (KV.out.trans kq);clear kq x0 x1;go_wp2_with fail;go_ret
       rw [HW.out];exact ⟨rfl,H2.out.keeps KV2.out id,K2.out.trans (KV2.out.mono (fun _ _ e=>e.elim))⟩
     · have d2:((((⟨s.toArray⟩:ByteArray)[j]'hlt).toNat:Int) != 10)=true:=by
        show ((s[j].toNat:Int) != 10)=true
        simp;omega
       have hw:Src.word s n=((s.drop i0).take (j-i0),j+1):=by
        rw [WD.out];congr 1
        rw [List.drop_eq_getElem_cons hlt,List.head?_cons];simp [hnl]
       have HW:=h_ hw;clear hw hnl;go_wp2_with fail;refine Go.Proofs.K.wp_region_calm ?calm7a ?calm7b ?_
       case calm7a=>kernel_rfl
       case calm7b=>kernel_rfl
       repeat ((with_reducible refine wpQuiet_step ?_);intro Kq hKq;go_simp;first | ((with_reducible refine hKq _ ?_);clear hKq Kq) | (refine hKq _ ?_;clear hKq Kq) | (apply Exists.intro;refine ⟨fun _=>?_,hKq _ ?_⟩;(fail);clear hKq Kq))
       with_reducible refine wpQuiet_nil ?_
       intro v2 hw';obtain ⟨⟨wq,kq⟩,hw''⟩:=hw';subst hw'';have KV2:=h_ (KV.out.trans kq);clear kq x0 x1;have c1:=cell_of (i:=1) (H2.out.keeps KV2.out id).head rfl;have f1:=free_of (i:=1) (H2.out.keeps KV2.out id).head;have R2:=h_ ((H2.out.keeps KV2.out id).at_ (j+1) (by omega))
       have KS:=h_ ((K2.out.trans (KV2.out.mono (fun _ _ e=>e.elim))).trans (Keeps.setCell (S:=fun g=>g=q) v2 ⟨q,1,none⟩ (.int .i64 (((j+1:Nat):Nat):Int)) (fun _=>rfl)))
       go_wp2_with fail;go_ret
       rw [HW.out];exact ⟨rfl,R2.out,KS.out⟩
   · have d1:decide ((j:Int)<(s.length:Int))=false:=decide_eq_false (by omega)
     have hw:Src.word s n=((s.drop i0).take (j-i0),j):=by
      rw [WD.out];congr 1
      rw [List.drop_eq_nil_of_le (by omega)];simp
     have HW:=h_ hw;clear hw;go_wp2_with fail;refine Go.Proofs.K.wp_region_calm ?calm8a ?calm8b ?_
     case calm8a=>kernel_rfl
     case calm8b=>kernel_rfl
     repeat ((with_reducible refine wpQuiet_step ?_);intro Kq hKq;go_simp;first | ((with_reducible refine hKq _ ?_);clear hKq Kq) | (refine hKq _ ?_;clear hKq Kq) | (apply Exists.intro;refine ⟨fun _=>?_,hKq _ ?_⟩;(fail);clear hKq Kq))
     with_reducible refine wpQuiet_nil ?_
     intro v2 hw';obtain ⟨⟨wq,kq⟩,hw''⟩:=hw';subst hw'';have KV2:=h_ (KV.out.trans kq);clear kq x0 x1;go_wp2_with fail;go_ret
     rw [HW.out];exact ⟨rfl,H2.out.keeps KV2.out id,K2.out.trans (KV2.out.mono (fun _ _ e=>e.elim))⟩
end Go.Proofs.Shed
namespace Go.Proofs.Shed
open Go Go.RowKit Go.Proofs.K Go.Proofs.Cod
def cut32:List UInt8→List UInt8→List (List UInt8)
 | _,[]=>[]
 | cur,c :: r=>if c=32 then cur :: cut32 [] r else cut32 (cur++[c]) r
theorem cut32_hit (cur r:List UInt8):cut32 cur (32 :: r)=cur :: cut32 [] r:=by rw [cut32,if_pos rfl]
theorem cut32_miss (cur r:List UInt8) (c:UInt8) (h:c≠32):cut32 cur (c :: r)=cut32 (cur++[c]) r:=by rw [cut32,if_neg h]
def text14:List UInt8:=names.flatMap fun n=>n++[32]
theorem cut_names:cut32 [] text14=names:=by decide +kernel
theorem text14_len:text14.length≤1000:=by decide +kernel
theorem ref_text14 (w:World):Calls Tryz.prog 212 #[] w fun e w'=>e=.returned (.string ⟨text14.toArray⟩)∧w=w':=by
 go_enter Tryz.func212,Tryz.ntmps212
 go_wp2_with fail;go_ret
 exact ⟨congrArg (fun l=>Ending.returned (.string ⟨List.toArray l⟩)) (by decide +kernel),rfl⟩
theorem str_news (w:World) (t:List UInt8):∀ j u,[Value.string ⟨t.toArray⟩][j]?=some u→(w.alloc (.cells #[Value.string ⟨t.toArray⟩] 9)).cell? ((⟨w.heap.size,0,none⟩:Addr).add j)=some u:=by
 intro j u hu
 cases j with
 | zero =>
  cases hu
  exact cell_of (halloc_at w _) rfl
 | succ j=>cases hu
theorem str_one (t:List UInt8):∀ u ∈ [Value.string ⟨t.toArray⟩],u.oneCell'=true:=by
 intro u hu;simp only [List.mem_singleton] at hu
 rw [hu];rfl
theorem meas14 {n i:Nat} (h:i<n) (e:wrap64 ((i:Int)+1)=(i:Int)+1):n-(intOf (.int .i64 (wrap64 ((i:Int)+1)))).toNat<n-(intOf (.int .i64 (i:Int))).toNat:=by
 rw [e]
 show n-((i:Int)+1).toNat<n-(i:Int).toNat
 omega
theorem ref_names_of (w:World) (T:List UInt8) (NS:List (List UInt8)) (hTL:T.length≤1000) (hCN:cut32 [] T=NS) (hNL:NS.length=86)
 (hT:∀ V:World,Calls Tryz.prog 212 #[] V fun e w'=>e=.returned (.string ⟨T.toArray⟩)∧V=w') :
 Calls Tryz.prog 135 #[] w fun e w'=>∃ g sc,e=.returned (.slice (some ⟨g,0,none⟩) 86 sc)∧Own w' 9 1 (some ⟨g,0,none⟩) 86 sc (NS.map nm)∧w.heap.size≤g∧Keeps (fun _=>False) w w':=by
 have HTL:=h_ hTL;have HCN:=h_ hCN;have HT:=h_ hT;have HNL:=h_ hNL;clear hTL hCN hT hNL
 go_enter Tryz.func135,Tryz.ntmps135
 go_wp2_with fail;refine (HT.out _).mono ?_;rintro e w1 ⟨rfl,rfl⟩;go_wp2_with fail
 go_loopw [1,3,4] (fun ov av iv wr=>∃ (L:List (List UInt8)) (at_ i:Nat) (sa:Option Addr) (sc:Nat),at_≤i∧i≤T.length∧iv=.int .i64 i∧av=.int .i64 at_∧ov=.slice sa L.length sc∧Own wr 9 1 sa L.length sc (L.map nm) ∧
  (∀ g,blk sa=some g→w.heap.size≤g)∧L++cut32 ((T.drop at_).take (i-at_)) (T.drop i)=NS∧Keeps (fun _=>False) w wr) (fun _ _ i _=>T.length-(intOf i).toNat)
 case atStart=>exact ⟨[],0,0,none,0,Nat.le_refl _,Nat.zero_le _,rfl,rfl,rfl,Own.nil _ _ _,(fun g e=>by cases e),HCN.out,Keeps.refl _ _⟩
 case round =>
  obtain ⟨L,at_,i,sa,sc,hai,hi,rfl,rfl,rfl,ho,hg,hc,hk⟩:=hrel;have HK:=h_ hk;have HO:=h_ ho;have HG:=h_ hg;have HC:=h_ hc
  have hL:L.length≤86:=by
   have:=congrArg List.length hc;rw [HNL.out,List.length_append] at this;omega
  clear hk ho hg hc;by_cases hlt:i<T.length
  · have c2:(i:Int)<T.length:=by omega
    have c3:(0:Int)≤i:=by omega
    have cw:wrap64 ((i:Int)+1)=(i:Int)+1:=IntWalk.wrap64_in _ (by have:=HTL.out;omega)
    have hd:T.drop i=T[i] :: T.drop (i+1):=List.drop_eq_getElem_cons hlt
    have htk:(T.drop at_).take (i+1-at_)=(T.drop at_).take (i-at_)++[T[i]]:=by
     rw [show i+1-at_=(i-at_)+1 from by omega,List.take_add_one]
     congr 1
     rw [List.getElem?_drop,show at_+(i-at_)=i from by omega,List.getElem?_eq_getElem hlt]
     rfl
    rw [hd] at HC;have HTK:=h_ htk;obtain ⟨c,hcc⟩:∃ c,c=T[i]:=⟨_,rfl⟩;rw [← hcc] at HC HTK;have HCI:=h_ hcc;clear htk hd hcc
    have hcn:((c.toNat:Int) == 32)=decide (c=32):=by
     by_cases h:c=32
     · subst h;rfl
     · rw [decide_eq_false h]
       have:¬ ((c.toNat:Int)=32):=fun e=>h (UInt8.toNat_inj.mp (show c.toNat=(32:UInt8).toNat from by show c.toNat=32;omega))
       simp [this]
    have HCN2:=h_ hcn;clear hcn;go_upto_region 7 with fail
    go_cut [15] (fun v wx=>v=.bool (decide (c=32))∧wx=wr)
    case first =>
     go_wp2_with fail
     go_meet
     exact ⟨by rw [← HCN2.out,HCI.out];rfl,rfl⟩
    case rest =>
     obtain ⟨rfl,rfl⟩:=hcut;by_cases h32:c=32
     · subst h32
       have HX:=h_ (str_extract T at_ i hai);have HS:cut32 ((T.drop at_).take (i-at_)) (32 :: T.drop (i+1))=(T.drop at_).take (i-at_) :: cut32 [] (T.drop (i+1)):=cut32_hit _ _;have HC2:=HC.out;rw [HS] at HC2;have HC3:=h_ HC2
       have hL2:L.length+1≤86:=by
        have:=congrArg List.length HC2;rw [HNL.out,List.length_append,List.length_cons] at this;omega
       clear HS HC2 HC;generalize (T.drop at_).take (i-at_)=cur at HX HC3 HTK;have hdt:decide ((32:UInt8)=32)=true:=rfl;rw [hdt];have b0:(0:Int)≤(at_:Int):=by omega
       have b1:(at_:Int)≤(i:Int):=by omega
       have b2:(i:Int)≤(T.length:Int):=by omega
       have hg0:=HG.out;have ka:=ka_ wc (.cells #[Value.string ⟨cur.toArray⟩] 9);have O0:=h_ (HO.out.keeps ka (fun _ _=>id))
       go_wp2_with (first
        | (rw [HX.out])
        | (at_builtin;refine wpList_app rfl _ _ 30 rfl 9 _ 1 16 Tryz.underlying30 info9 rfl (by decide) sa L.length sc (L.map nm) rfl ?t1 ⟨wc.heap.size,0,none⟩ 1 1 [.string ⟨cur.toArray⟩] rfl rfl (str_news wc cur) (str_one cur) ?t3 ?t4 ?_))
       case t1=>exact O0.out
       case t3=>unfold maxLen;omega
       case t4=>omega
       intro a4 c4 w4 o4 k4 l4;have hsz:=HK.out.size;have K4:=h_ ((HK.out.trans ka).trans' k4 (fun i hi e=>absurd (hg0 i e) (by omega)))
       have O4:=h_ (show Own w4 9 1 a4 (L.length+1) c4 ((L++[cur]).map nm) from by rw [List.map_append];exact o4)
       have G4:=h_ (show ∀ g,blk a4=some g→w.heap.size≤g from fun g e=>by
        rcases l4 with l | l
        · exact hg0 g (l ▸ e)
        · rw [l] at e;cases e;omega)
       clear ka o4 k4 l4 hg0;go_wp2_with fail
       go_roundw
       case rel=>exact ⟨L++[cur],i+1,i+1,a4,c4,Nat.le_refl _,by omega,by go_num,by go_num,by rw [List.length_append];rfl,by rw [List.length_append];exact O4.out,G4.out,by rw [Nat.sub_self,List.take_zero,List.append_assoc];exact HC3.out,K4.out⟩
       case measure=>exact meas14 hlt cw
     · have HS:cut32 ((T.drop at_).take (i-at_)) (c :: T.drop (i+1))=cut32 ((T.drop at_).take (i-at_)++[c]) (T.drop (i+1)):=cut32_miss _ _ _ h32
       rw [HS] at HC;have hdt:decide (c=32)=false:=decide_eq_false h32;rw [hdt];clear HS hdt;go_wp2_with fail
       go_roundw
       case rel=>exact ⟨L,at_,i+1,sa,sc,by omega,by omega,by go_num,rfl,rfl,HO.out,HG.out,by rw [HTK.out];exact HC.out,HK.out⟩
       case measure=>exact meas14 hlt cw
  · have hil:i=T.length:=by omega
    subst hil;have hn:¬ ((T.length:Int)<T.length):=by omega
    have hLn:L=NS:=by
     have:=HC.out;rw [List.drop_length] at this;simpa [cut32] using this
    have HLN:=h_ hLn;clear hLn hlt;go_wp2_with fail;go_ret
    obtain ⟨g,hgg⟩:∃ g,sa=some ⟨g,0,none⟩:=by
     rcases HO.out.form with ⟨e1,e2,_⟩ | ⟨g,cur,e1,_⟩
     · have:=HNL.out;rw [← HLN.out] at this;omega
     · exact ⟨g,e1⟩
    subst hgg;have hO:=HO.out;rw [HLN.out,HNL.out] at hO;rw [HLN.out,HNL.out];exact ⟨g,sc,rfl,hO,HG.out g rfl,HK.out⟩
theorem ref_names (w:World):Calls Tryz.prog 135 #[] w fun e w'=>∃ g sc,e=.returned (.slice (some ⟨g,0,none⟩) 86 sc)∧Own w' 9 1 (some ⟨g,0,none⟩) 86 sc (names.map nm)∧w.heap.size≤g∧Keeps (fun _=>False) w w' :=
 ref_names_of w text14 names text14_len cut_names names_len ref_text14
end Go.Proofs.Shed
