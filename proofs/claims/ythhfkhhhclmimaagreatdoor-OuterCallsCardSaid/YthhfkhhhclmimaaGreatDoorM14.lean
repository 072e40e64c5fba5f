/- Of CallsG: WDictE, WCopy. No condition. -/
import Derived.Test.YthhfkhhhclmimaaGreatDoorM07
import Derived.Test.YthhfkhhhclmimaaGreatDoorM13
import Derived.Deep.CutBlock
set_option linter.unusedVariables false
set_option linter.unusedSimpArgs false
set_option maxRecDepth 10000
set_option maxHeartbeats 4000000
namespace Go.Proofs.Shed
open Go Go.RowKit Go.Proofs.K Go.Proofs.Cod Go.Proofs.Ari
theorem Dict.mono {w0 w:World} {b n n':Nat} {K:List UInt8→Option Pk} (h:Dict w0 w b n K) (hn:n≤n'):Dict w0 w b n' K:=by
 obtain ⟨f,h1,h⟩:=h;exact ⟨f,h1.mono hn,h⟩
theorem Dict.drew {w0 w:World} {b n:Nat} {K:List UInt8→Option Pk} (h:Dict w0 w b n K):Dict w0 w.drew b n K:=h.keeps (Keeps.drew _ _)
theorem Dict.ge {w0 w:World} {b n:Nat} {K:List UInt8→Option Pk} (h:Dict w0 w b n K):w0.heap.size≤b:=by
 obtain ⟨f,h1,h2,h3,h4⟩:=h;exact h3
theorem dict_run {w0:World} {w:World} {b n:Nat} {K:List UInt8→Option Pk} (hown:Dict w0 w b n K) (hn:n<1000) (s:List UInt8) (hs:s.length≤1000) (val:Value) (kd:Pk) (gd:Good (fun g=>w0.heap.size≤g) w kd val) :
 ∃ w',(Instr.mapUpdate 235 (.map (some b)) (.string ⟨s.toArray⟩) val).run Tryz.prog w=.ok () w'∧Dict w0 w' b (n+1) (kput K s kd)∧Keeps (fun g=>g=b) w w':=by
 obtain ⟨f,h1,h2,h3,h4⟩:=hown;obtain ⟨D,hown,hr⟩:=h1;have hD:=(hown.tidy sk.kd).isMap;obtain ⟨w',hrun,r1,r2⟩:=hown.update sk.kd Tryz.underlying235 (by unfold maxLen;omega) (sk.reads s (Nat.le_trans hs (by unfold maxLen;omega))) (show RV val=some (.held val,[]) from rfl)
 have hk:=Keeps.grown (S:=fun g=>g=b) r2 (fun j _ e=>(Option.some.inj e).symm)
 have hx':=KeepX.of (X:=fun g=>w0.heap.size≤g) hk (fun g _ e=>by
  have e:g=b:=e
  rw [e];exact MapIs.noRow (⟨D,hown,hr⟩:MapIs sk w b n f))
 exact ⟨w',hrun,⟨_,⟨_,r1,hr.put hD s val⟩,(h2.keeps hx').put s (gd.keeps hx'),h3,h4.trans' hk (fun i hi e=>by
  have e:i=b:=e
  omega)⟩,hk⟩
def addK (K:List UInt8→Option Pk) (op:List UInt8):List UInt8→Option Pk:=if isTwo op=true then kput K op (.two op) else if isOne op=true then kput K op (.one op) else K
def K_reckoning:List UInt8→Option Pk:=names.foldl addK (fun _=>none)
theorem vm_reckoning (w:World):Calls Tryz.prog 201 #[] w (DictPost w 86 K_reckoning):=by
 have hmm:=@run_makeMap Tryz.prog;have hmf:=hmf;have DK:=h_ (Dict.made w);have HN:=h_ fun w=>names_any w
 have HR:Hid (K_reckoning=names.foldl addK (fun _=>none)):=rfl
 generalize K_reckoning=KR at HR ⊢
 go_enter Tryz.func201,Tryz.ntmps201
 go_wp2_with fail;refine (HN.out _).mono ?_;rintro e w1 ⟨rfl,rfl⟩;have ON:=h_ (own_names (w.alloc (.map #[] 0)));replace DK:=h_ (DK.out.keeps (ka_ _ (.cells (names.map nm).toArray 9)));generalize hw2:(w.alloc (.map #[] 0)).alloc (.cells (names.map nm).toArray 9)=w2 at ON DK;have hs2:w.heap.size+1<w2.heap.size:=by rw [← hw2];simp
 rw [show (w.alloc (.map #[] 0)).heap.size=w.heap.size+1 by simp] at *
 clear hw2;go_wp2_with fail
 go_loopw [12] (fun iv wr=>∃ i n:Nat,iv=.int .i64 i∧i≤86∧n≤i∧Dict w wr w.heap.size n ((names.take i).foldl addK (fun _=>none))∧Keeps (fun g=>g=w.heap.size) w2 wr) (fun iv _=>86-(intOf iv).toNat)
 case atStart=>exact ⟨0,0,rfl,by omega,by omega,DK.out,Keeps.refl _ _⟩
 case round =>
  obtain ⟨i,n,rfl,hi,hn,hd,hk⟩:=hrel;have HD:=h_ hd;have HK:=h_ hk;clear hd hk;by_cases hlt:i<86
  · have hi':i<names.length:=by rw [names_len];exact hlt
    obtain ⟨g,hg,hc⟩:=own_str (ON.out.keeps HK.out (fun g e=>by cases e;exact fun h=>by have h:w.heap.size+1=w.heap.size:=h;omega)) i hi'
    cases hg
    have HT:=h_ (show (names.take (i+1)).foldl addK (fun _=>none)=addK ((names.take i).foldl addK (fun _=>none)) names[i] by
     rw [List.take_succ_eq_append_getElem hi',List.foldl_append];rfl)
    have hln:names[i].length≤1000:=by
     have:∀ s ∈ names,s.length≤1000:=by decide +kernel
     exact this _ (List.getElem_mem hi')
    generalize hx:names[i]=x at hc HT hln;generalize (names.take i).foldl addK (fun _=>none)=K at HT HD
    have HL:=h_ hln;clear hx hln hi';have hi0:(0:Int)≤(i:Int):=by omega
    unfold nm at hc;have HTW:=h_ fun w=>two_one x w
    have HON:=h_ fun w=>one_one x w
    go_wp2_with fail;refine (HTW.out _).mono ?_;rintro e w3 ⟨⟨x1,x2,rfl⟩,k3⟩;have KW3:=h_ k3;have K3:=h_ ((ka_ wr _).trans k3);clear k3 hc;have HB:=K3.out.size;have NB:=h_ (show ¬ wr.heap.size=w.heap.size by obtain ⟨f,h1,_⟩:=HD.out;have:=h1.lt;omega)
    have hb3:(wr.alloc (.cells #[.string ⟨x.toArray⟩] 9)).heap[wr.heap.size]?=some (.cells #[.string ⟨x.toArray⟩] 9 (0,0)):=halloc_at wr _;have h3:=h_ (show w3.heap[wr.heap.size]?=some (.cells #[.string ⟨x.toArray⟩] 9 (0,0)) from KW3.out.heap hb3 id)
    have D3:=h_ (HD.out.keeps K3.out);have hsw:=h_ HD.out.size;clear hb3 HD;have c3:w3.cell? ⟨wr.heap.size,0,none⟩=some (.string ⟨x.toArray⟩):=cell_of h3.out rfl
    cases h1:isTwo x with
    | true =>
     have KE:=h_ (show addK K x=kput K x (.two x) by unfold addK;rw [if_pos h1])
     have hW:=h_ fun (V:World) (k:Keeps (fun _=>False) w3 V)=>vm_with V w.heap.size (by have:=hsw.out;have:=k.size;omega) 2 (.func 320) #[.pointer (some ⟨wr.heap.size,0,none⟩)]
     clear h1;go_wp2_with fail
     go_region_held3 (fun w'=>w'.cell? ⟨wr.heap.size,0,none⟩=some (.string ⟨x.toArray⟩))
      (first | go_keep | exact k4.cell c3 id | exact k5.cell (k4.cell c3 id) NB.out)
      (first
        | (go_at_call 299;refine (hW.out _ (Keeps.drew _ _)).mono ?_;rintro e w4 ⟨v,rfl,gw,k4⟩;dsimp only;obtain ⟨w5,hrun,dk,k5⟩:=dict_run ((D3.out.drew).keeps k4) (by omega) x HL.out v (.two x) ⟨_,gw,⟨wr.heap.size,_,rfl,hsw.out,k4.heap h3.out id⟩⟩))
     have DK5:=h_ dk;have K5:=h_ ((HK.out.trans (K3.out.mono (fun _ _ e=>e.elim))).trans (((Keeps.drew (fun g=>g=w.heap.size) w3).trans (k4.mono (fun _ _ e=>e.elim))).trans k5))
     clear dk k5 k4 gw hrun;go_wp2_with fail
     go_roundw
     case rel=>exact ⟨i+1,n+1,by go_num,by omega,by omega,by rw [HT.out,KE.out];exact DK5.out,K5.out⟩
     case measure=>simp [intOf];omega
    | false =>
     have KE:=h_ (show addK K x=if isOne x=true then kput K x (.one x) else K by unfold addK;rw [if_neg (by simp [h1])])
     clear h1;go_wp2_with fail;refine (HON.out _).mono ?_;rintro e w4 ⟨⟨x3,rfl⟩,rfl⟩
     cases h2:isOne x with
     | true =>
      replace KE:=h_ (show addK K x=kput K x (.one x) by rw [KE.out,if_pos h2])
      have hW:=h_ fun (V:World) (k:Keeps (fun _=>False) w3 V)=>vm_with V w.heap.size (by have:=hsw.out;have:=k.size;omega) 1 (.func 322) #[.pointer (some ⟨wr.heap.size,0,none⟩)]
      clear h2;go_wp2_with fail
      go_region_held3 (fun w'=>w'.cell? ⟨wr.heap.size,0,none⟩=some (.string ⟨x.toArray⟩))
       (first | go_keep | exact k4.cell c3 id | exact k5.cell (k4.cell c3 id) NB.out)
       (first
         | (go_at_call 299;refine (hW.out _ (Keeps.drew _ _)).mono ?_;rintro e w4 ⟨v,rfl,gw,k4⟩;dsimp only;obtain ⟨w5,hrun,dk,k5⟩:=dict_run ((D3.out.drew).keeps k4) (by omega) x HL.out v (.one x) ⟨_,gw,⟨wr.heap.size,_,rfl,hsw.out,k4.heap h3.out id⟩⟩))
      have DK5:=h_ dk;have K5:=h_ ((HK.out.trans (K3.out.mono (fun _ _ e=>e.elim))).trans (((Keeps.drew (fun g=>g=w.heap.size) w3).trans (k4.mono (fun _ _ e=>e.elim))).trans k5))
      clear dk k5 k4 gw hrun;go_wp2_with fail
      go_roundw
      case rel=>exact ⟨i+1,n+1,by go_num,by omega,by omega,by rw [HT.out,KE.out];exact DK5.out,K5.out⟩
      case measure=>simp [intOf];omega
     | false =>
      replace KE:=h_ (show addK K x=K by rw [KE.out,if_neg (by simp [h2])])
      have K5:=h_ (HK.out.trans (K3.out.mono (fun _ _ e=>e.elim)))
      clear h2;go_wp2_with fail
      go_roundw
      case rel=>exact ⟨i+1,n,by go_num,by omega,by omega,by rw [HT.out,KE.out];exact D3.out,K5.out⟩
      case measure=>simp [intOf];omega
  · have hge:i=86:=by omega
    subst hge;have hT:names.take 86=names:=by rw [← names_len];exact List.take_length
    rw [hT,← HR.out] at HD;clear hT;go_wp2_with fail;go_ret
    exact ⟨_,rfl,HD.out.mono hn⟩
end Go.Proofs.Shed
namespace Go.Proofs.Shed
open Go Go.RowKit Go.Proofs.K
theorem copy_any (w:World) (b1 b2 n1 n2:Nat) (f1 f2:List UInt8→Option Value) (h1:MapIs sk w b1 n1 f1) (h2:MapIs sk w b2 n2 f2) (hne:b1≠b2) (hn:n1+n2≤1000) :
 Calls Tryz.prog 206 #[.map (some b1),.map (some b2)] w fun e w'=>e=.returned (.tuple #[])∧MapIs sk w' b1 (n1+n2) (over f2 f1)∧Keeps (fun g=>g=b1) w w':=by
 have H1:=h_ h1;have H2:=h_ h2;have hb1:=h1.lt;clear h1 h2
 go_enter Tryz.func206,Tryz.ntmps206
 go_wp2_with (first
  | (at_range;refine wpList_range sk _ rfl _ 235 rfl _ Tryz.underlying235 b2 n2 f2 rfl H2.out ?_;intro w0 cnt0 hrg0 hk0)
  | go_in)
 go_frame
 have HR0:=h_ hrg0;have HK0:=h_ hk0;clear hrg0 hk0
 go_loopw [8] (fun _ wr=>∃ (left:List UInt8→Bool) (cnt m:Nat),MapRun sk wr b2 w.heap.size n2 f2 left cnt∧m+cnt≤n1+n2∧MapIs sk wr b1 m (blend f2 f1 left)∧Keeps (fun g=>g=b1) w wr) (fun _ wr=>wr.rangeLeft b2 w.heap.size)
 case atStart =>
  refine ⟨_,cnt0,n1,HR0.out,by have:=HR0.out.cnt_le;omega,?_,HK0.out.mono (fun _ _ e=>e.elim)⟩
  rw [blend_start];exact H1.out.keeps HK0.out id
 case round =>
  obtain ⟨left,cnt,m,hrg,hm,hd,hk⟩:=hrel;have HR:=h_ hrg;have HD:=h_ hd;have HK:=h_ hk;clear hrg hd hk
  go_wp2_with (first
   | (at_next;refine wpList_mstep sk _ rfl _ rfl b2 w.heap.size n2 f2 left cnt rfl HR.out ?_ ?_)
   | go_in)
  · intro hl
    have HL:=h_ hl;clear hl;go_wp2_with fail;go_end0
    exact ⟨rfl,(HD.out.mono (by omega)).congr (fun x hx=>blend_end _ _ _ _ (HL.out x hx)),HK.out⟩
  · intro x v w1 cnt1 hok hlx hfx hrg1 hlt hg1 hen
    have hr:=HR.out.lts;have HR1:=h_ hrg1;have HD1:=h_ (HD.out.keeps hg1 (fun e=>by have e:b1=w.heap.size:=e;omega))
    have HK1:=h_ (HK.out.trans' hg1 (fun i hi e=>by have e:i=w.heap.size:=e;omega))
    have HF:=h_ hfx;have HO:=h_ hok
    change (Instr.entry (.pointer (some ⟨w.heap.size,0,none⟩))).run Tryz.prog w1=.ok (.tuple #[.string ⟨x.toArray⟩,v]) w1 at hen
    rw [show sk.val x=Value.string ⟨x.toArray⟩ from rfl]
    clear hrg1 hg1 hfx hok hlx
    go_wp2_with (first
     | (at_mapUpdate;refine wpList_put sk _ rfl _ _ _ 235 (.inl rfl) _ Tryz.underlying235 b1 m _ rfl HD1.out (by unfold maxLen;omega) x HO.out v rfl rfl ?_;intro w2 hd2 hk2;go_frame)
     | go_in)
    have HR2:=h_ (HR1.out.keeps hk2 (fun e=>hne (by have e:b2=b1:=e;exact e.symm)) (fun e=>by have e:w.heap.size=b1:=e;omega))
    have HK2:=h_ (HK1.out.trans hk2);rw [blend_step _ _ _ _ _ HF.out] at hd2;have HD2:=h_ hd2;clear hd2 hk2
    go_roundw
    case rel=>exact ⟨_,cnt1,m+1,HR2.out,by omega,HD2.out,HK2.out⟩
    case measure=>rw [HR2.out.left_eq,HR.out.left_eq];exact hlt
theorem Dict.rebase {w0 w1 w:World} {b n:Nat} {K:List UInt8→Option Pk} (h:Dict w1 w b n K) (k:Keeps (fun _=>False) w0 w1):Dict w0 w b n K:=by
 obtain ⟨f,h1,h2,h3,h4⟩:=h;exact ⟨f,h1,h2.mono (fun g _ hg=>Nat.le_trans k.size hg),Nat.le_trans k.size h3,k.trans h4⟩
theorem Dict.noRow {w0 w:World} {b n:Nat} {K:List UInt8→Option Pk} (h:Dict w0 w b n K):NoRow w b:=by
 obtain ⟨f,h1,_⟩:=h;exact MapIs.noRow h1
theorem Dict.keepsB {w0 w w':World} {b n b0:Nat} {K:List UInt8→Option Pk} (h:Dict w0 w b n K) (k:Keeps (fun g=>g=b0) w w') (hne:b≠b0) (hr:NoRow w b0) (hb:w0.heap.size≤b0):Dict w0 w' b n K:=by
 obtain ⟨f,h1,h2,h3,h4⟩:=h;exact ⟨f,h1.keeps k hne,h2.keeps (KeepX.of k (fun g _ e=>by have e:g=b0:=e;rw [e];exact hr)),h3,h4.trans' k (fun i hi e=>by have e:i=b0:=e;omega)⟩
def kover (K2 K1:List UInt8→Option Pk):List UInt8→Option Pk:=fun s=>match K2 s with | some k=>some k | none=>K1 s
theorem Goods.over {X:Nat→Prop} {w:World} {K1 K2:List UInt8→Option Pk} {f1 f2:List UInt8→Option Value} (h1:Goods X w K1 f1) (h2:Goods X w K2 f2):Goods X w (kover K2 K1) (over f2 f1):=by
 intro s;have a1:=h1 s;have a2:=h2 s;unfold kover K.over
 cases hk:K2 s with
 | none =>
  rw [hk] at a2;simp only at a2
  rw [a2];exact a1
 | some kd =>
  rw [hk] at a2;simp only at a2
  obtain ⟨v,h3,h4⟩:=a2;rw [h3];exact ⟨v,rfl,h4⟩
theorem copy_dict (w0 w:World) (b1 b2 n1 n2:Nat) (K1 K2:List UInt8→Option Pk) (h1:Dict w0 w b1 n1 K1) (h2:Dict w0 w b2 n2 K2) (hne:b1≠b2) (hn:n1+n2≤1000) :
 Calls Tryz.prog 206 #[.map (some b1),.map (some b2)] w fun e w'=>e=.returned (.tuple #[])∧Dict w0 w' b1 (n1+n2) (kover K2 K1)∧Keeps (fun g=>g=b1) w w':=by
 have hr:=h1.noRow;obtain ⟨f1,m1,g1,l1,k1⟩:=h1;obtain ⟨f2,m2,g2,l2,k2⟩:=h2;refine (copy_any w b1 b2 n1 n2 f1 f2 m1 m2 hne hn).mono ?_;rintro e w' ⟨rfl,h,k⟩;have kx:=KeepX.of (X:=fun g=>w0.heap.size≤g) k (fun g _ e=>by have e:g=b1:=e;rw [e];exact hr)
 exact ⟨rfl,⟨_,h,(g1.keeps kx).over (g2.keeps kx),l1,k1.trans' k (fun i hi e=>by have e:i=b1:=e;omega)⟩,k⟩
end Go.Proofs.Shed
