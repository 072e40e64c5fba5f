/- Of CallsG: WRdL, WRdM, RdP, WRdN, ErrP, L17, WErrA, WErrB, WRfH, WErrC, WCalB, CalP. No condition. -/
import Derived.Test.YthhfkhhhclmimaaGreatDoorM46
import Derived.Test.YthhfkhhhclmimaaGreatDoorM50
set_option linter.unusedVariables false
set_option linter.unusedSimpArgs false
set_option maxRecDepth 10000
set_option maxHeartbeats 4000000
namespace Go.Proofs.Shed
open Go Go.RowKit Go.Proofs.K Go.Proofs.Cod
theorem wordsN_bd (m:Mem) (hs:m.size≤4194304):∀ (k:Nat) (last a:Int),last≤m.size→∀ d ∈ m.wordsN k last a,Sixty d.xt:=by
 intro k
 induction k with
 | zero=>intro _ _ _ d h;cases h
 | succ k ih =>
  intro last a hl d h;unfold Mem.wordsN at h;split at h
  · rename_i hc
    split at h
    · rename_i d0 l e
      rcases List.mem_cons.1 h with h | h
      · subst h
        unfold Mem.readWd at e;simp only at e
        split at e
        · cases e
        · rename_i h1
          split at e
          · cases e
          · injection e with e
            injection e with e _
            subst e;have h31:¬ 31<(m.cell (a+8)).1 % 256:=fun h=>h1 (.inr (.inr (.inl h)))
            unfold Sixty Mem.pad8;simp only
            omega
      · exact ih a l (by omega) d h
    · cases h
  · cases h
theorem find_bd (m:Mem) (hs:m.size≤4194304) (s:List UInt8):∀ (l:List Int) (d:Wd),m.find s l=some d→Sixty d.xt
 | [],d,h=>by cases h
 | a :: l,d,h=>by
  unfold Mem.find at h;split at h
  · rename_i w e
    injection h with h
    subst h;have hm:w ∈ m.words a:=List.mem_of_find?_eq_some e;unfold Mem.words at hm;split at hm
    · cases hm
    · exact wordsN_bd m hs _ _ _ (Int.le_refl _) _ hm
  · exact find_bd m hs s l d h
theorem RRd.mmap {G:Gk} {X:Nat→Prop} {w:World} {r:Rd} (h:RRd w G X r):MapIs sk w G.mm G.nm G.fm:=h.elim fun _ h=>h.1.mm
theorem zero_fo (w:World):(zeroValue 73).run Tryz.prog w=.ok .nilFunc w:=by kernel_rfl
section
variable {α:Type} {E:Ext α} {RE:World→(Nat→Prop)→α→Prop} {G:Gk}
theorem RJ.keeps0 {w w':World} {Z:Nat→Prop} {q:Rd × α} (ok:ExtOk E RE G) (h:RJ RE G w Z q) (k:Keeps (fun _=>False) w w'):RJ RE G w' Z q:=by
 obtain ⟨⟨X,Y,h1,h2,h3,h4⟩,h5,h6⟩:=h;exact ⟨⟨X,Y,h1.keeps0 k,ok.keeps h2 k (fun _ _ e=>e),h3,h4⟩,fun g hg=>Nat.lt_of_lt_of_le (h5 g hg) k.size,h6.evo (Evo.of0 k)⟩
theorem lower_len (s:List UInt8):(lower s).length=s.length:=by unfold lower;simp
theorem rj_word_more (ok:ExtOk E RE G) (w:World) (Z:Nat→Prop) (q:Rd × α) (s:List UInt8) (hs:s.length≤1000000) (hz:RJ RE G w Z q) (hm:E.has (lower s)=true) (hgd:E.good q.1) :
 Calls Tryz.prog 77 #[.pointer (some ⟨G.ob,0,none⟩),.string ⟨s.toArray⟩] w (PJ RE G Z w (E.doIt s q)):=by
 have hq:E.doIt s q=E.word (lower s) q:=by unfold Ext.doIt;rw [if_pos hm]
 obtain ⟨k,cap,hf,he,hc⟩:=ok.yes _ hm;rw [hq];have HL:=h_ fun V=>intern_lower V s (by omega)
 have hll:=lower_len s;generalize lower s=low at *;have HF:=h_ hf;have hent:∀ (args:Array Value) (w:World),(callFunc k args).run Tryz.prog w=.ok (.enter k args) w:=he;have HC:=h_ fun w Z (hV:RJ RE G w Z q)=>hc w Z q hgd hV
 have HMM:=h_ fun V (hV:RJ RE G V Z q)=>hV.parts.elim fun X h=>h.elim fun Y h=>h.1.mmap
 have HO:=h_ fun V (hV:RJ RE G V Z q)=>hV.parts.elim fun X h=>h.elim fun Y h=>h.1.o18
 have R0:=h_ hz;have OK:=h_ ok;clear hq hm hf he hc hz ok hgd
 go_enter Tryz.func77,Tryz.ntmps77
 go_wp2_with fail;refine (HL.out _).mono ?_;rintro e w1 ⟨rfl,k1⟩;have R1:=h_ (R0.out.keeps0 OK.out k1);have K1:=h_ k1;have o18:=HO.out _ R1.out;clear k1
 go_wp2_with (first
  | (at_lookup;refine wpList_look sk _ rfl _ _ 57 rfl _ Tryz.underlying57 _ (zero_fo _) G.mm G.nm G.fm rfl (HMM.out _ R1.out) low (show low.length≤maxLen by unfold maxLen;omega) rfl _ HF.out ?_;dsimp only [Option.getD_some,Option.isSome_some]))
 refine (HC.out w1 Z R1.out).mono ?_;rintro e w2 ⟨rfl,Z2,r2,k2⟩;have R2:=h_ r2;have E2:=h_ ((Evo.of0 K1.out).trans k2);clear r2 k2 o18;go_wp2_with fail;go_ret
 exact ⟨rfl,_,R2.out,E2.out⟩
end
theorem Rd.own_word {r:Rd} {s low:List UInt8} (hl:lower s=low) {kd:Wk} (h:K_words low=some kd):r.own s=r.doK kd:=by unfold Rd.own;rw [hl,h]
theorem Rd.own_other {r:Rd} {s low:List UInt8} (hl:lower s=low) (h:K_words low=none):r.own s=r.other s:=by unfold Rd.own;rw [hl,h]
theorem rd_own_word (G:Gk) (X:Nat→Prop) (w:World) (r:Rd) (s low:List UInt8) (kd:Wk) (hs:s.length≤1000000) (hlow:lower s=low) (hno:G.fm low=none) (hk:K_words low=some kd) (hg:Gl w X) (h:RRd w G X r) :
 Calls Tryz.prog 77 #[.pointer (some ⟨G.ob,0,none⟩),.string ⟨s.toArray⟩] w (PR G X w (r.own s)):=by
 rw [Rd.own_word hlow hk];have hok:=words_ok _ _ hk
 cases kd with
 | plain f =>
  have HD:=h_ fun V Y u (hg:Gl V Y) (hV:RRd V G Y u)=>hok.ok G Y V u hg hV
  have hent:∀ (args:Array Value) (w:World),(callFunc f args).run Tryz.prog w=.ok (.enter f args) w:=hok.ent
  show Calls _ _ _ _ (PR G X w (Rd.doW f r))
  clear hok;have HL:=h_ fun V=>intern_lower V s (by omega)
  have hll:=lower_len s;rw [hlow] at HL hll;have HF:=h_ hno;have HGL:=h_ hg;have R0:=h_ h;have E0:=h_ (Evo.refl w X);have o18:=R0.out.o18;clear h hno hg
  go_enter Tryz.func77,Tryz.ntmps77
  go_wp2_with fail;refine (HL.out w).mono ?_;rintro e w1 ⟨rfl,k1⟩;have R1:=h_ (R0.out.keeps0 k1);have E1:=h_ (E0.out.trans (Evo.of0 k1));clear k1
  try clear o18
  have o18:=R1.out.o18
  go_wp2_with (first
   | (at_lookup;refine wpList_look sk _ rfl _ _ 57 rfl _ Tryz.underlying57 _ (zero_fo _) G.mm G.nm G.fm rfl R1.out.mmap low (show low.length≤maxLen by unfold maxLen;omega) rfl _ HF.out ?_;dsimp only [Option.getD_none,Option.isSome_none]))
  refine (outer_words w1).mono ?_;rintro e w2 ⟨bW,rfl,fW,hW,hgW,_,k2⟩;have HW:=h_ hW;have HGW:=h_ (hgW low);have R2:=h_ (R1.out.keeps0 k2);have E2:=h_ (E1.out.trans (Evo.of0 k2));clear hW hgW k2 o18;have hgw:=HGW.out;rw [hk] at hgw;obtain ⟨v,hv,rfl⟩:=hgw;have HV:=h_ hv;clear hv hk;unfold fnV at HV
  go_wp2_with (first
   | (at_lookup;refine wpList_look sk _ rfl _ _ 57 rfl _ Tryz.underlying57 _ (zero_fo _) bW _ fW rfl HW.out low (show low.length≤maxLen by unfold maxLen;omega) rfl _ HV.out ?_;dsimp only [Option.getD_some,Option.isSome_some]))
  refine (HD.out w2 _ _ (HGL.out.evo E2.out) R2.out).mono ?_;rintro e w3 ⟨rfl,X3,r3,k3⟩;have R3:=h_ r3;have E3:=h_ (E2.out.trans k3);clear r3 k3
  try clear o18
  go_wp2_with fail;go_ret
  exact ⟨rfl,_,R3.out,E3.out⟩
 | only f =>
  have HD:=h_ fun V Y u gb t (hb:V.heap[gb]?=some (.cells #[fnV f] t (0,0))) (hg:Gl V Y) (hV:RRd V G Y u)=>rd_only G Y V u f gb t hok hb hg hV
  have hent:∀ (args:Array Value) (w:World),(callFunc 372 args).run Tryz.prog w=.ok (.enter 372 args) w:=enters_only;clear hok;have HL:=h_ fun V=>intern_lower V s (by omega)
  have hll:=lower_len s;rw [hlow] at HL hll;have HF:=h_ hno;have HGL:=h_ hg;have R0:=h_ h;have E0:=h_ (Evo.refl w X);have o18:=R0.out.o18;clear h hno hg
  go_enter Tryz.func77,Tryz.ntmps77
  go_wp2_with fail;refine (HL.out w).mono ?_;rintro e w1 ⟨rfl,k1⟩;have R1:=h_ (R0.out.keeps0 k1);have E1:=h_ (E0.out.trans (Evo.of0 k1));clear k1
  try clear o18
  have o18:=R1.out.o18
  go_wp2_with (first
   | (at_lookup;refine wpList_look sk _ rfl _ _ 57 rfl _ Tryz.underlying57 _ (zero_fo _) G.mm G.nm G.fm rfl R1.out.mmap low (show low.length≤maxLen by unfold maxLen;omega) rfl _ HF.out ?_;dsimp only [Option.getD_none,Option.isSome_none]))
  refine (outer_words w1).mono ?_;rintro e w2 ⟨bW,rfl,fW,hW,hgW,_,k2⟩;have HW:=h_ hW;have HGW:=h_ (hgW low);have R2:=h_ (R1.out.keeps0 k2);have E2:=h_ (E1.out.trans (Evo.of0 k2));clear hW hgW k2 o18;have hgw:=HGW.out;rw [hk] at hgw;obtain ⟨v,hv,a,rfl,gb,t,rfl,_,hb⟩:=hgw;have HV:=h_ hv;have HB:=h_ hb;clear hv hk hb
  go_wp2_with (first
   | (at_lookup;refine wpList_look sk _ rfl _ _ 57 rfl _ Tryz.underlying57 _ (zero_fo _) bW _ fW rfl HW.out low (show low.length≤maxLen by unfold maxLen;omega) rfl _ HV.out ?_;dsimp only [Option.getD_some,Option.isSome_some]))
  refine (HD.out w2 _ _ gb t HB.out (HGL.out.evo E2.out) R2.out).mono ?_;rintro e w3 ⟨rfl,X3,r3,k3⟩;have R3:=h_ r3;have E3:=h_ (E2.out.trans k3);clear r3 k3
  try clear o18
  go_wp2_with fail;go_ret
  exact ⟨rfl,_,R3.out,E3.out⟩
theorem rd_own_other (G:Gk) (X:Nat→Prop) (w:World) (r:Rd) (s low:List UInt8) (hs:s.length≤1000000) (hlow:lower s=low) (hno:G.fm low=none) (hk:K_words low=none) (hg:Gl w X) (h:RRd w G X r) :
 Calls Tryz.prog 77 #[.pointer (some ⟨G.ob,0,none⟩),.string ⟨s.toArray⟩] w (PR G X w (r.own s)):=by
 rw [Rd.own_other hlow hk]
 have hq:r.other s=match r.v.x.mem.find s r.ord with
  | some d=>r.found d
  | none=>if (Num.parse s r.v.baseN).2 then r.literal [(Num.parse s r.v.baseN).1] else (r,-13):=rfl
 have HBD:=h_ fun d (e:r.v.x.mem.find s r.ord=some d)=>find_bd r.v.x.mem h.fv.vm.sp.mem.le s r.ord d e
 have HOK:=h_ h.ok.ord;have HF0:=h_ fun V Y d hx (hV:RRd V G Y r)=>rd_found G Y V r d hx hV
 have HBS:=h_ fun V Y (hV:RRd V G Y r)=>fv_base G.K V r.v hV.fv
 generalize r.other s=Q at hq ⊢;have HQ:=h_ hq;clear hq;have HL:=h_ fun V=>intern_lower V s (by omega)
 have hll:=lower_len s;rw [hlow] at HL hll;have HF:=h_ hno;have HGL:=h_ hg;have R0:=h_ h;have E0:=h_ (Evo.refl w X);have o18:=R0.out.o18;clear h hno hg
 go_enter Tryz.func77,Tryz.ntmps77
 go_wp2_with fail;refine (HL.out w).mono ?_;rintro e w1 ⟨rfl,k1⟩;have R1:=h_ (R0.out.keeps0 k1);have E1:=h_ (E0.out.trans (Evo.of0 k1));clear k1
 try clear o18
 have o18:=R1.out.o18
 go_wp2_with (first
  | (at_lookup;refine wpList_look sk _ rfl _ _ 57 rfl _ Tryz.underlying57 _ (zero_fo _) G.mm G.nm G.fm rfl R1.out.mmap low (show low.length≤maxLen by unfold maxLen;omega) rfl _ HF.out ?_;dsimp only [Option.getD_none,Option.isSome_none]))
 refine (outer_words w1).mono ?_;rintro e w2 ⟨bW,rfl,fW,hW,hgW,_,k2⟩;have HW:=h_ hW;have HGW:=h_ (hgW low);have R2:=h_ (R1.out.keeps0 k2);have E2:=h_ (E1.out.trans (Evo.of0 k2));clear hW hgW k2 o18;have hgw:=HGW.out;rw [hk] at hgw;have HV:=h_ hgw;clear hgw hk;have HLO:=h_ fun V Y n (hV:RRd V G Y r)=>rd_literal1 G Y V r n hV
 go_wp2_with (first
  | (at_lookup;refine wpList_look sk _ rfl _ _ 57 rfl _ Tryz.underlying57 _ (zero_fo _) bW _ fW rfl HW.out low (show low.length≤maxLen by unfold maxLen;omega) rfl _ HV.out ?_;dsimp only [Option.getD_none,Option.isSome_none]))
 obtain ⟨la,lc,c2,hown⟩:=R2.out.lists;have HOW:=h_ hown;have c0:=R2.out.o0;have m0:=R2.out.v0;have s0:=R2.out.vs;obtain ⟨hob,hmb2,hsb,_⟩:=R2.out.lts;obtain ⟨wq,hwq⟩:∃ wq,wq=w2:=⟨_,rfl⟩;subst hwq;have HFI:=h_ fun V (k:Keeps (fun _=>False) wq V)=>fv_find G.K V r.v s la lc r.ord (by omega) (HOW.out V k) HOK.out (R2.out.fv.keeps0 k)
 clear hown
 cases hd:r.v.x.mem.find s r.ord with
 | none =>
  have hq:=HQ.out;rw [hd] at HFI hq;simp only at hq
  have HQ2:=h_ hq;clear hd hq HBD HQ;go_upto_region 8 with fail
  go_cut [10,11] (fun v6 v7 wx=>∃ g:Nat,v6=.pointer (some ⟨g,0,none⟩)∧v7=.bool false∧WdCells g 0 0 0 [] wx∧Keeps (fun _=>False) wq wx)
  case first =>
   go_region_held3 (fun w'=>w'.cell? ⟨G.ob,0,none⟩=some (.pointer (some ⟨G.K.mb,0,none⟩))∧w'.cell? ⟨G.ob,2,none⟩=some (.slice la r.ord.length lc)∧w'.cell? ⟨G.K.mb,0,none⟩=some (.pointer (some ⟨G.K.s,0,none⟩))∧w'.cell? ⟨G.K.s,0,none⟩=some (.pointer (some ⟨G.K.b,0,none⟩)))
    (first | go_keep)
    (first
      | (go_at_call 42;refine (HFI.out (wq.alloc (.cells #[.int .i64 0,.int .i64 0,.int .i64 0,.string ⟨#[]⟩] 53)).drew ((ka_ wq (.cells #[.int .i64 0,.int .i64 0,.int .i64 0,.string ⟨#[]⟩] 53)).trans (Keeps.drew _ _))).mono ?_;rintro e w4 ⟨rfl,k4⟩;dsimp only [findV,Wd.val]
         have ks:=((ka_ wq (.cells #[.int .i64 0,.int .i64 0,.int .i64 0,.string ⟨#[]⟩] 53)).trans (kd_ _)).trans k4;have hz:=k4.heap (show ((wq.alloc (.cells #[.int .i64 0,.int .i64 0,.int .i64 0,.string ⟨#[]⟩] 53)).drew).heap[wq.heap.size]?=_ from halloc_at wq _) id
         have e0:w4.cell? ⟨G.ob,0,none⟩=some (.pointer (some ⟨G.K.mb,0,none⟩)):=ks.cell c0 id;have e2:w4.cell? ⟨G.ob,2,none⟩=some (.slice la r.ord.length lc):=ks.cell c2 id;have em:w4.cell? ⟨G.K.mb,0,none⟩=some (.pointer (some ⟨G.K.s,0,none⟩)):=ks.cell m0 id;have es:w4.cell? ⟨G.K.s,0,none⟩=some (.pointer (some ⟨G.K.b,0,none⟩)):=ks.cell s0 id;have z0:w4.cell? ⟨wq.heap.size,0,none⟩=some (.int .i64 0):=cell_of hz rfl;have z1:w4.cell? ⟨wq.heap.size,1,none⟩=some (.int .i64 0):=cell_of hz rfl;have z2:w4.cell? ⟨wq.heap.size,2,none⟩=some (.int .i64 0):=cell_of hz rfl;have z3:w4.cell? ⟨wq.heap.size,3,none⟩=some (.string ⟨#[]⟩):=cell_of hz rfl;have q0:=free_of (i:=0) hz;have q1:=free_of (i:=1) hz;have q2:=free_of (i:=2) hz;have q3:=free_of (i:=3) hz;have n1:wq.heap.size≠G.ob:=by omega
         have n2:wq.heap.size≠G.K.mb:=by omega
         have n3:wq.heap.size≠G.K.s:=by omega
         have n1':G.ob≠wq.heap.size:=by omega
         have n2':G.K.mb≠wq.heap.size:=by omega
         have n3':G.K.s≠wq.heap.size:=by omega)
      | (go_at_call 42;refine (HFI.out wq.drew (Keeps.drew _ _)).mono ?_;rintro e w4 ⟨rfl,k4⟩;dsimp only [findV,Wd.val]
         have ks:=(kd_ wq).trans k4;have e0:w4.cell? ⟨G.ob,0,none⟩=some (.pointer (some ⟨G.K.mb,0,none⟩)):=ks.cell c0 id;have e2:w4.cell? ⟨G.ob,2,none⟩=some (.slice la r.ord.length lc):=ks.cell c2 id;have em:w4.cell? ⟨G.K.mb,0,none⟩=some (.pointer (some ⟨G.K.s,0,none⟩)):=ks.cell m0 id;have es:w4.cell? ⟨G.K.s,0,none⟩=some (.pointer (some ⟨G.K.b,0,none⟩)):=ks.cell s0 id;have l1:=World.block_lt_of_cell? w4 _ e0;have l2:=World.block_lt_of_cell? w4 _ em
         have l3:=World.block_lt_of_cell? w4 _ es))
   all_goals
    go_wp2_with fail
    go_meet
    refine ⟨_,rfl,rfl,?_⟩
    first
     | (have hB:=set4 (g:=wq.heap.size) hz (.int .i64 0) (.int .i64 0) (.int .i64 0) (.string ⟨#[]⟩)
        have kB:=keeps_set4 ks wq.heap.size (.int .i64 0) (.int .i64 0) (.int .i64 0) (.string ⟨#[]⟩) (Nat.le_refl _)
        exact ⟨hB,kB⟩)
     | (have hA:=halloc_at w4 (.cells #[(.int .i64 0),(.int .i64 0),(.int .i64 0),(.string ⟨#[]⟩)] 53)
        have kA:=ks.trans (ka_ w4 (.cells #[(.int .i64 0),(.int .i64 0),(.int .i64 0),(.string ⟨#[]⟩)] 53))
        exact ⟨hA,kA⟩)
  case rest =>
   obtain ⟨g,rfl,rfl,hw,kc⟩:=hcut;have R3:=h_ (R2.out.keeps0 kc);have E3:=h_ (E2.out.trans (Evo.of0 kc));clear hw kc c0 c2 m0 s0 HFI;have o0:=R3.out.o0;go_wp2_with fail;refine (HBS.out wc _ R3.out).mono ?_;rintro e w4 ⟨rfl,k4⟩;have R4:=h_ (R3.out.keeps0 k4);have E4:=h_ (E3.out.trans (Evo.of0 k4));clear k4
   try clear o0;try clear o18
   go_wp2_with fail;have HPA:=h_ (num_parse w4 s r.v.baseN (by omega))
   generalize r.v.baseN=bs at HPA HQ2;generalize Num.parse s bs=p at HPA HQ2;obtain ⟨n,ok⟩:=p;simp only at HPA HQ2
   refine (HPA.out).mono ?_;rintro e w5 ⟨rfl,k5⟩;have R5:=h_ (R4.out.keeps0 k5);have E5:=h_ (E4.out.trans (Evo.of0 k5));clear k5
   try clear o0;try clear o18
   cases ok with
   | true =>
    have hq:Q=r.literal [n]:=by rw [HQ2.out];rfl
    replace HLO:=h_ (HLO.out w5 _ n R5.out);rw [← hq] at HLO;clear hq HQ2;go_wp2_with fail;refine (HLO.out).mono ?_;rintro e w6 ⟨rfl,X6,r6,k6⟩;have R6:=h_ r6;have E6:=h_ (E5.out.trans k6);clear r6 k6
    try clear o0;try clear o18
    go_wp2_with fail;go_ret
    exact ⟨rfl,_,R6.out,E6.out⟩
   | false =>
    have hq:Q=(r,-13):=by rw [HQ2.out];rfl
    have HQ3:=h_ hq;clear hq HQ2;go_wp2_with fail;go_ret
    rw [HQ3.out];exact ⟨rfl,_,R5.out,E5.out⟩
 | some d =>
  have hq:=HQ.out;rw [hd] at HFI hq;simp only at hq
  have hx:=HBD.out d hd;replace HF0:=h_ fun V Y (hV:RRd V G Y r)=>HF0.out V Y d hx hV
  rw [← hq] at HF0;clear hd hq HBD HQ hx;obtain ⟨da,dx,df,dn⟩:=d;unfold Wd.val at HF0;go_upto_region 8 with fail
  go_cut [10,11] (fun v6 v7 wx=>∃ g:Nat,v6=.pointer (some ⟨g,0,none⟩)∧v7=.bool true∧WdCells g da dx df dn wx∧Keeps (fun _=>False) wq wx)
  case first =>
   go_region_held3 (fun w'=>w'.cell? ⟨G.ob,0,none⟩=some (.pointer (some ⟨G.K.mb,0,none⟩))∧w'.cell? ⟨G.ob,2,none⟩=some (.slice la r.ord.length lc)∧w'.cell? ⟨G.K.mb,0,none⟩=some (.pointer (some ⟨G.K.s,0,none⟩))∧w'.cell? ⟨G.K.s,0,none⟩=some (.pointer (some ⟨G.K.b,0,none⟩)))
    (first | go_keep)
    (first
      | (go_at_call 42;refine (HFI.out (wq.alloc (.cells #[.int .i64 0,.int .i64 0,.int .i64 0,.string ⟨#[]⟩] 53)).drew ((ka_ wq (.cells #[.int .i64 0,.int .i64 0,.int .i64 0,.string ⟨#[]⟩] 53)).trans (Keeps.drew _ _))).mono ?_;rintro e w4 ⟨rfl,k4⟩;dsimp only [findV,Wd.val]
         have ks:=((ka_ wq (.cells #[.int .i64 0,.int .i64 0,.int .i64 0,.string ⟨#[]⟩] 53)).trans (kd_ _)).trans k4;have hz:=k4.heap (show ((wq.alloc (.cells #[.int .i64 0,.int .i64 0,.int .i64 0,.string ⟨#[]⟩] 53)).drew).heap[wq.heap.size]?=_ from halloc_at wq _) id
         have e0:w4.cell? ⟨G.ob,0,none⟩=some (.pointer (some ⟨G.K.mb,0,none⟩)):=ks.cell c0 id;have e2:w4.cell? ⟨G.ob,2,none⟩=some (.slice la r.ord.length lc):=ks.cell c2 id;have em:w4.cell? ⟨G.K.mb,0,none⟩=some (.pointer (some ⟨G.K.s,0,none⟩)):=ks.cell m0 id;have es:w4.cell? ⟨G.K.s,0,none⟩=some (.pointer (some ⟨G.K.b,0,none⟩)):=ks.cell s0 id;have z0:w4.cell? ⟨wq.heap.size,0,none⟩=some (.int .i64 0):=cell_of hz rfl;have z1:w4.cell? ⟨wq.heap.size,1,none⟩=some (.int .i64 0):=cell_of hz rfl;have z2:w4.cell? ⟨wq.heap.size,2,none⟩=some (.int .i64 0):=cell_of hz rfl;have z3:w4.cell? ⟨wq.heap.size,3,none⟩=some (.string ⟨#[]⟩):=cell_of hz rfl;have q0:=free_of (i:=0) hz;have q1:=free_of (i:=1) hz;have q2:=free_of (i:=2) hz;have q3:=free_of (i:=3) hz;have n1:wq.heap.size≠G.ob:=by omega
         have n2:wq.heap.size≠G.K.mb:=by omega
         have n3:wq.heap.size≠G.K.s:=by omega
         have n1':G.ob≠wq.heap.size:=by omega
         have n2':G.K.mb≠wq.heap.size:=by omega
         have n3':G.K.s≠wq.heap.size:=by omega)
      | (go_at_call 42;refine (HFI.out wq.drew (Keeps.drew _ _)).mono ?_;rintro e w4 ⟨rfl,k4⟩;dsimp only [findV,Wd.val]
         have ks:=(kd_ wq).trans k4;have e0:w4.cell? ⟨G.ob,0,none⟩=some (.pointer (some ⟨G.K.mb,0,none⟩)):=ks.cell c0 id;have e2:w4.cell? ⟨G.ob,2,none⟩=some (.slice la r.ord.length lc):=ks.cell c2 id;have em:w4.cell? ⟨G.K.mb,0,none⟩=some (.pointer (some ⟨G.K.s,0,none⟩)):=ks.cell m0 id;have es:w4.cell? ⟨G.K.s,0,none⟩=some (.pointer (some ⟨G.K.b,0,none⟩)):=ks.cell s0 id;have l1:=World.block_lt_of_cell? w4 _ e0;have l2:=World.block_lt_of_cell? w4 _ em
         have l3:=World.block_lt_of_cell? w4 _ es))
   all_goals
    go_wp2_with fail
    go_meet
    refine ⟨_,rfl,rfl,?_⟩
    first
     | (have hB:=set4 (g:=wq.heap.size) hz (.int .i64 da) (.int .i64 dx) (.int .i64 df) (.string ⟨dn.toArray⟩)
        have kB:=keeps_set4 ks wq.heap.size (.int .i64 da) (.int .i64 dx) (.int .i64 df) (.string ⟨dn.toArray⟩) (Nat.le_refl _)
        exact ⟨hB,kB⟩)
     | (have hA:=halloc_at w4 (.cells #[(.int .i64 da),(.int .i64 dx),(.int .i64 df),(.string ⟨dn.toArray⟩)] 53)
        have kA:=ks.trans (ka_ w4 (.cells #[(.int .i64 da),(.int .i64 dx),(.int .i64 df),(.string ⟨dn.toArray⟩)] 53))
        exact ⟨hA,kA⟩)
  case rest =>
   obtain ⟨g,rfl,rfl,hw,kc⟩:=hcut;have x0:wc.cell? ⟨g,0,none⟩=some (.int .i64 da):=cell_of hw rfl;have x1:wc.cell? ⟨g,1,none⟩=some (.int .i64 dx):=cell_of hw rfl;have x2:wc.cell? ⟨g,2,none⟩=some (.int .i64 df):=cell_of hw rfl;have x3:wc.cell? ⟨g,3,none⟩=some (.string ⟨dn.toArray⟩):=cell_of hw rfl;have R3:=h_ (R2.out.keeps0 kc);have E3:=h_ (E2.out.trans (Evo.of0 kc));clear hw kc c0 c2 m0 s0 HFI;go_wp2_with fail;refine (HF0.out wc _ R3.out).mono ?_;rintro e w4 ⟨rfl,X4,r4,k4⟩;have R4:=h_ r4;have E4:=h_ (E3.out.trans k4);clear r4 k4
   try clear o0;try clear o18
   go_wp2_with fail;go_ret
   exact ⟨rfl,_,R4.out,E4.out⟩
theorem rd_own (G:Gk) (X:Nat→Prop) (w:World) (r:Rd) (s:List UInt8) (hs:s.length≤1000000) (hno:G.fm (lower s)=none) (hg:Gl w X) (h:RRd w G X r) :
 Calls Tryz.prog 77 #[.pointer (some ⟨G.ob,0,none⟩),.string ⟨s.toArray⟩] w (PR G X w (r.own s)):=by
 cases hk:K_words (lower s) with
 | some kd=>exact rd_own_word G X w r s _ kd hs rfl hno hk hg h
 | none=>exact rd_own_other G X w r s _ hs rfl hno hk hg h
theorem rj_word {α:Type} {E:Ext α} {RE:World→(Nat→Prop)→α→Prop} {G:Gk} (ok:ExtOk E RE G) (w:World) (Z:Nat→Prop) (q:Rd × α) (s:List UInt8) (hs:s.length≤1000000) (hgd:E.has (lower s)=true→E.good q.1) (hz:RJ RE G w Z q) :
 Calls Tryz.prog 77 #[.pointer (some ⟨G.ob,0,none⟩),.string ⟨s.toArray⟩] w (PJ RE G Z w (E.doIt s q)):=by
 cases hm:E.has (lower s) with
 | true=>exact rj_word_more ok w Z q s hs hz hm (hgd hm)
 | false =>
  have hq:E.doIt s q=Ext.lift q.2 (q.1.own s):=by unfold Ext.doIt;rw [if_neg (by rw [hm];simp)]
  rw [hq];obtain ⟨X,Y,h1,h2,h3,h4⟩:=hz.parts;have hgx:Gl w X:=⟨hz.gl.1,fun g hg e=>hz.gl.2 g hg (h4 g (.inl e))⟩
  refine (rd_own G X w q.1 s hs (ok.no _ hm) hgx h1).mono ?_;rintro e w' ⟨rfl,X',hr,ev⟩;exact ⟨rfl,RJ.of ok hz h1 h2 h3 h4 hr ev⟩
theorem rd_ddrop0 (G:Gk) (X:Nat→Prop) (w:World) (r:Rd) (h:RRd w G X r):Calls Tryz.prog 53 #[.pointer (some ⟨G.K.db,0,none⟩),.int .i64 0] w (PR G X w (r.vm (r.v.ddrop 0))) :=
 (fv_ddrop G.K w r.v 0 h.fv).mono fun _ _ ⟨he,hv,k⟩=>⟨he,X,h.vm hv k,h.evo k⟩
theorem rd_rdrop0 (G:Gk) (X:Nat→Prop) (w:World) (r:Rd) (h:RRd w G X r):Calls Tryz.prog 53 #[.pointer (some ⟨G.K.rb,0,none⟩),.int .i64 0] w (PR G X w (r.vm (r.v.rdrop 0))) :=
 (fv_rdrop G.K w r.v 0 h.fv).mono fun _ _ ⟨he,hv,k⟩=>⟨he,X,h.vm hv k,h.evo k⟩
theorem itoa_len2 (n:Int) (h:Sixty n):(Lib.itoa n).length≤20:=Scr.itoa_len n h.1 h.2
theorem neq_nn (w:World):(binOp BinOp.neq 1 Value.nilFunc Value.nilFunc).run Tryz.prog w=.ok (.bool false) w:=by rfl
theorem neq_fn (w:World) (k:Nat) (first cap:Array Value):(binOp BinOp.neq 1 (Value.func (.func k) first cap) Value.nilFunc).run Tryz.prog w=.ok (.bool true) w:=by rfl
def ResetOk {α:Type} (E:Ext α) (RE:World→(Nat→Prop)→α→Prop) (G:Gk):Prop :=
 (G.reset=.nilFunc∧∀ q,E.reset q=q)∨∃ k first cap,G.reset=.func (.func k) first cap∧Enters k∧∀ w Z q,RJ RE G w Z q→Calls Tryz.prog k (first++cap) w (PJu RE G Z w (E.reset q))
theorem rj_skip {α:Type} {E:Ext α} {RE:World→(Nat→Prop)→α→Prop} {G:Gk} (ok:ExtOk E RE G) (w:World) (Z:Nat→Prop) (q:Rd × α) (hz:RJ RE G w Z q) :
 ∃ g,w.cell? ⟨G.ob,1,none⟩=some (.pointer (some ⟨g,0,none⟩))∧Calls Tryz.prog 87 #[.pointer (some ⟨g,0,none⟩)] w (PJu RE G Z w (q.1.skip,q.2)):=by
 obtain ⟨X,Y,h1,h2,h3,h4⟩:=hz.parts;obtain ⟨g,hg,hc⟩:=rd_skip G X w q.1 h1;exact ⟨g,hg,hc.mono fun e w' ⟨he,X',hr,ev⟩=>⟨he,RJ.of ok hz h1 h2 h3 h4 hr ev⟩⟩
theorem rj_fail {α:Type} {E:Ext α} {RE:World→(Nat→Prop)→α→Prop} {G:Gk} (ok:ExtOk E RE G) (rs:ResetOk E RE G) (w:World) (Z:Nat→Prop) (q:Rd × α) (e:Int) (hx:Sixty e) (hz:RJ RE G w Z q) :
 Calls Tryz.prog 34 #[.pointer (some ⟨G.ob,0,none⟩),.int .i64 e] w (PJu RE G Z w (E.fail q e)):=by
 obtain ⟨r,x⟩:=q;obtain ⟨X,Y,h1,h2,h3,h4⟩:=hz.parts;have hgl:Gl w X:=⟨hz.gl.1,fun g hg e=>hz.gl.2 g hg (h4 g (.inl e))⟩
 have HJ:=h_ fun (w':World) (X':Nat→Prop) (r':Rd) (hr:RRd w' G X' r') (ev:Evo w X w' X')=>RJ.of ok hz h1 h2 h3 h4 hr ev
 have HSK:=h_ fun V Z' (q:Rd × α) (hV:RJ RE G V Z' q)=>rj_skip ok V Z' q hV
 have hfl:E.fail (r,x) e=((E.reset (r.failed e,x)).1.skip,(E.reset (r.failed e,x)).2):=rfl;have hfd:r.failed e={ (if r.is then { ({ r with v:=Rd.emptied r.v e }:Rd).backTo r.here r.v.list r.list with last:=Wd.none } else { r with v:=Rd.emptied r.v e }).kept with comp:=false,meth:=false,marks:=[] }:=rfl
 have RS:=h_ rs;have OK:=h_ ok;generalize E.fail (r,x) e=Q at hfl ⊢;have HQ:=h_ hfl;clear hz h2 h3 h4 ok rs hfl;have HFD:=h_ hfd;clear hfd;have HF:=h_ fun V (hV:Glo V)=>str_format0 e hx.1 hx.2 V hV
 have hlen:=itoa_len2 e hx
 have hst:Value.string (⟨#[63]⟩++⟨(Lib.itoa e).toArray⟩++⟨#[10]⟩)=.string ⟨(Rd.errText e).toArray⟩:=by
  unfold Rd.errText;congr 1
 have hel:(Rd.errText e).length≤4611686018427387904:=by unfold Rd.errText;simp;omega
 have HP:=h_ fun V Y (hV:RRd V G Y r)=>rd_put G Y V r (Rd.errText e) hel hV
 have HD:=h_ fun V Y (hV:RRd V G Y (r.putO (Rd.errText e)))=>rd_ddrop0 G Y V _ hV
 have HRD:=h_ fun V Y (hV:RRd V G Y ((r.putO (Rd.errText e)).vm ((r.putO (Rd.errText e)).v.ddrop 0)).1)=>rd_rdrop0 G Y V _ hV
 have hfin:(((r.putO (Rd.errText e)).vm ((r.putO (Rd.errText e)).v.ddrop 0)).1.vm (((r.putO (Rd.errText e)).vm ((r.putO (Rd.errText e)).v.ddrop 0)).1.v.rdrop 0)).1={ r with v:=Rd.emptied r.v e }:=rfl;generalize hq2:(((r.putO (Rd.errText e)).vm ((r.putO (Rd.errText e)).v.ddrop 0)).1.vm (((r.putO (Rd.errText e)).vm ((r.putO (Rd.errText e)).v.ddrop 0)).1.v.rdrop 0))=q2 at HRD hfin;clear hq2;obtain ⟨r3,e3⟩:=q2;simp only at hfin
 subst hfin;generalize ((r.putO (Rd.errText e)).vm ((r.putO (Rd.errText e)).v.ddrop 0))=q1 at HD HRD;obtain ⟨r2,e2⟩:=q1;simp only at HRD
 generalize (r.putO (Rd.errText e))=r1 at HP HD;generalize Rd.errText e=et at HP hst;generalize Lib.itoa e=tt at HF hlen hst;have HST:=h_ hst;have HGL:=h_ hgl;have R0:=h_ h1;have E0:=h_ (Evo.refl w X);have o0:=R0.out.o0;have hm1:¬ 9223372036854775807<1+tt.length:=by omega
 have hm2:¬ 9223372036854775807<1+tt.length+1:=by omega
 clear hst hlen hel
 go_enter Tryz.func34,Tryz.ntmps34
 go_wp2_with fail
 go_region_held3 (fun w'=>w'.cell? ⟨G.ob,0,none⟩=some (.pointer (some ⟨G.K.mb,0,none⟩)))
  (first | go_keep | exact t0)
  (first
    | (go_at_call 67;refine (HF.out w.drew (HGL.out.1.keeps0 (Keeps.drew _ _))).mono ?_;rintro e' w8 ⟨rfl,k8⟩;dsimp only;have t8:=k8.cell (show w.drew.cell? ⟨G.ob,0,none⟩=_ from o0) id)
    | (go_at_call 86;(first | rw [HST.out] | skip);refine (HP.out w8 X (R0.out.keeps0 ((kd_ w).trans k8))).mono ?_;rintro e' w1 ⟨rfl,X1,r1',k1⟩;dsimp only;have t0:=r1'.o0))
 have R1:=h_ r1';have E1:=h_ (E0.out.trans ((Evo.of0 ((kd_ w).trans k8)).trans k1));clear r1' k1 k8 t0 t8 HF HP h1 hm1 hm2 HST hgl hx
 try clear o0
 have o0:=R1.out.o0;have v1:=R1.out.v1;go_wp2_with fail;refine (HD.out _ _ R1.out).mono ?_;rintro e w2 ⟨rfl,X2,r2,k2⟩;have R2:=h_ r2;have E2:=h_ (E1.out.trans k2);clear r2 k2
 try clear o0;try clear v1
 have o0:=R2.out.o0;have v2:=R2.out.v2;go_wp2_with fail;refine (HRD.out _ _ R2.out).mono ?_;rintro e w3 ⟨rfl,X3,r3,k3⟩;have R3:=h_ r3;have E3:=h_ (E2.out.trans k3);clear r3 k3
 try clear o0;try clear v1;try clear v2
 have o16:w3.cell? ⟨G.ob,16,none⟩=some (.bool r.is):=R3.out.o16;clear HD HRD;have HFD2:=HFD.out
 cases hi:r.is with
 | false =>
  rw [hi] at o16;rw [if_neg (by rw [hi];simp)] at HFD2
  have HU:=h_ HFD2;clear HFD HFD2 hi;generalize ({ r with v:=Rd.emptied r.v e }:Rd)=u at R3 HU;have HK:=h_ (rd_kept G _ _ _ R3.out);go_wp2_with fail;refine (HK.out).mono ?_;rintro e w4 ⟨rfl,X4,r4,k4⟩;have R4:=h_ r4;have E4:=h_ (E3.out.trans k4);clear r4 k4
  try clear o0;try clear o16;try clear v1;try clear v2
  have o4:=R4.out.o4;have o5:=R4.out.o5;obtain ⟨a3,c3,o3⟩:=R4.out.o3;have f4:=R4.out.free 4;have f5:=R4.out.free 5;have f3:=R4.out.free 3;have ks:=keeps_cells3 w4 G.ob 4 5 3 (.bool false) (.bool false) (.slice none 0 0);have RM:=h_ (R4.out.withObM (r':=r.failed e) ks (fun D hc=>by rw [HU.out];exact hset_same (hset_same (hset_same hc _) _) _) (by rw [HU.out];exact ⟨rfl,rfl,rfl,rfl,rfl,rfl⟩) (by rw [HU.out];exact { R4.out.ok with marks:=Nat.zero_le _ }))
  have EM:=h_ (E4.out.trans (R4.out.evoOb ks));obtain ⟨ZM,jm,em⟩:=HJ.out _ _ _ RM.out EM.out;have JM:=h_ jm;have EZ:=h_ em;have c19:w4.cell? ⟨G.ob,19,none⟩=some G.reset:=R4.out.o19;have HM:=h_ (show (((w4.setCell ⟨G.ob,4,none⟩ (.bool false)).setCell ⟨G.ob,5,none⟩ (.bool false)).setCell ⟨G.ob,3,none⟩ (.slice none 0 0))=_ from rfl)
  clear jm em ks RM EM HJ HU HK
  rcases RS.out with ⟨hrv,hid⟩ | ⟨k,first,cap,hrv,hent,hcon⟩
  · rw [hrv] at c19
    have HQ2:=h_ (HQ.out.trans (by rw [hid]))
    have hnn:=neq_nn;clear hrv hid RS HQ;rw [← HM.out] at JM;obtain ⟨gq,c1,hsk⟩:=HSK.out _ _ _ JM.out;have HS:=h_ hsk;clear hsk HSK HM;go_wp2_with fail;refine HS.out.mono ?_;rintro e' wF ⟨rfl,ZF,jF,kF⟩;have JF:=h_ jF;have EF:=h_ (EZ.out.trans kF);clear jF kF;go_wp2_with fail;go_end0
    rw [HQ2.out];exact ⟨rfl,_,JF.out,EF.out⟩
  · rw [hrv] at c19
    have hnf:=neq_fn;have hent2:∀ (args:Array Value) (w:World),(callFunc k args).run Tryz.prog w=.ok (.enter k args) w:=hent;have HC:=h_ (hcon _ _ _ JM.out);clear hrv hent hcon RS HM;go_wp2_with fail;refine HC.out.mono ?_;rintro e' wE ⟨rfl,ZE,jE,kE⟩;have JE:=h_ jE;have EE:=h_ (EZ.out.trans kE);obtain ⟨gq,c1,hsk⟩:=HSK.out _ _ _ JE.out;have HS:=h_ hsk;clear hsk HSK jE kE;go_wp2_with fail;refine HS.out.mono ?_;rintro e' wF ⟨rfl,ZF,jF,kF⟩;have JF:=h_ jF;have EF:=h_ (EE.out.trans kF);clear jF kF;go_wp2_with fail;go_end0
    rw [HQ.out];exact ⟨rfl,_,JF.out,EF.out⟩
 | true =>
  rw [hi] at o16;rw [if_pos hi] at HFD2;have HU0:=h_ HFD2;have hb:({ r with v:=Rd.emptied r.v e }:Rd).backTo r.here r.v.list r.list=(Rd.setCell (({ r with v:=Rd.emptied r.v e }:Rd).vm ((Rd.emptied r.v e).setSp ((Rd.emptied r.v e).x.back r.here))).1 r.v.list r.list).1:=rfl;rw [hb] at HU0;have HBK:=h_ fun V Y (hV:RRd V G Y { r with v:=Rd.emptied r.v e })=>rd_back G Y V _ r.here hV
  have o14:w3.cell? ⟨G.ob,14,none⟩=some (.int .i64 r.here):=R3.out.o14;have o15:w3.cell? ⟨G.ob,15,none⟩=some (.int .i64 r.list):=R3.out.o15;have hl1:(({ r with v:=Rd.emptied r.v e }:Rd).vm ((Rd.emptied r.v e).setSp ((Rd.emptied r.v e).x.back r.here))).1.v.list=r.v.list:=rfl;have hl2:(({ r with v:=Rd.emptied r.v e }:Rd).vm ((Rd.emptied r.v e).setSp ((Rd.emptied r.v e).x.back r.here))).1.list=r.list:=rfl;generalize ({ r with v:=Rd.emptied r.v e }:Rd).vm ((Rd.emptied r.v e).setSp ((Rd.emptied r.v e).x.back r.here))=p4 at HU0 HBK hl1 hl2;obtain ⟨r4,e4⟩:=p4;simp only at HU0 hl1 hl2
  have HSC:=h_ fun V Y (hV:RRd V G Y r4)=>rd_setCell G Y V r4 r.v.list r.list hV
  generalize r4.setCell r.v.list r.list=p5 at HU0 HSC;obtain ⟨r5,e5⟩:=p5;simp only at HU0
  have HL:=h_ (And.intro hl1 hl2);clear HFD HFD2 hi hb hl1 hl2;have o0:=R3.out.o0;have v0:=R3.out.v0;go_wp2_with fail
  go_still_tail 12,(by kernel_rfl)
  try change wpList _ _ _ _ _ w3.drew
  have R4:=h_ (R3.out.keeps0 (kd_ w3));have E4:=h_ (E3.out.trans (Evo.of0 (kd_ w3)))
  try clear o0;try clear o3;try clear o4;try clear o5;try clear o14;try clear o15;try clear o16;try clear v0;try clear v1;try clear v2
  generalize w3.drew=w4 at R4 E4 ⊢;go_wp2_with fail;refine (HBK.out _ _ R4.out).mono ?_;rintro e w5 ⟨rfl,X5,r5,k5⟩;have R5:=h_ r5;have E5:=h_ (E4.out.trans k5);clear r5 k5
  try clear o0;try clear o3;try clear o4;try clear o5;try clear o14;try clear o15;try clear o16;try clear v0;try clear v1;try clear v2
  have o0:=R5.out.o0;have v0:=R5.out.v0;have vs:=R5.out.vs;have v8:w5.cell? ⟨G.K.mb,8,none⟩=some (.int .i64 r.v.list):=by rw [R5.out.v8,HL.out.1]
  have o15:w5.cell? ⟨G.ob,15,none⟩=some (.int .i64 r.list):=by rw [R5.out.o15,HL.out.2]
  go_wp2_with fail
  go_still_tail 22,(by kernel_rfl)
  try change wpList _ _ _ _ _ w5.drew
  have R6:=h_ (R5.out.keeps0 (kd_ w5));have E6:=h_ (E5.out.trans (Evo.of0 (kd_ w5)))
  try clear o0;try clear o3;try clear o4;try clear o5;try clear o14;try clear o15;try clear o16;try clear v0;try clear v1;try clear v2;try clear v8;try clear vs
  generalize w5.drew=w6 at R6 E6 ⊢;go_wp2_with fail;refine (HSC.out _ _ R6.out).mono ?_;rintro e w7 ⟨rfl,X7,r7,k7⟩;have R7:=h_ r7;have E7:=h_ (E6.out.trans k7);clear r7 k7
  try clear o0;try clear o3;try clear o4;try clear o5;try clear o14;try clear o15;try clear o16;try clear v0;try clear v1;try clear v2;try clear v8;try clear vs
  have o10:=R7.out.o10;have o11:=R7.out.o11;have o12:=R7.out.o12;have o13:=R7.out.o13;have f10:=R7.out.free 10;have f11:=R7.out.free 11;have f12:=R7.out.free 12;have f13:=R7.out.free 13;have ks:=keeps_cells4 w7 G.ob 10 11 12 13 (.int .i64 0) (.int .i64 0) (.int .i64 0) (.string ⟨#[]⟩);have R8:=h_ (R7.out.withOb (r':={ r5 with last:=Wd.none }) ks (fun D hc=>hset_same (hset_same (hset_same (hset_same hc _) _) _) _) ⟨rfl,rfl,rfl,rfl,rfl,rfl⟩ { R7.out.ok with last0:=by show (0:Int)≤0;decide,last1:=by show (0:Int)≤_;decide })
  have E8:=h_ (E7.out.trans (R7.out.evoOb ks));have HU:=h_ HU0.out;generalize ({ r5 with last:=Wd.none }:Rd)=u at R8 HU;have HK:=h_ (rd_kept G _ _ _ R8.out);clear ks HU0;go_wp2_with fail
  try clear o0;try clear o3;try clear o4;try clear o5;try clear o10;try clear o11;try clear o12;try clear o13;try clear o14;try clear o15;try clear o16;try clear v0;try clear v1;try clear v2;try clear v8;try clear vs
  refine (HK.out).mono ?_;rintro e w9 ⟨rfl,X9,r9,k9⟩;have R9:=h_ r9;have E9:=h_ (E8.out.trans k9);clear r9 k9
  try clear o0;try clear o3;try clear o4;try clear o5;try clear o10;try clear o11;try clear o12;try clear o13;try clear o14;try clear o15;try clear o16;try clear v0;try clear v1;try clear v2;try clear v8;try clear vs
  have o4:=R9.out.o4;have o5:=R9.out.o5;obtain ⟨a3,c3,o3⟩:=R9.out.o3;have f4:=R9.out.free 4;have f5:=R9.out.free 5;have f3:=R9.out.free 3;have ks:=keeps_cells3 w9 G.ob 4 5 3 (.bool false) (.bool false) (.slice none 0 0);have RM:=h_ (R9.out.withObM (r':=r.failed e) ks (fun D hc=>by rw [HU.out];exact hset_same (hset_same (hset_same hc _) _) _) (by rw [HU.out];exact ⟨rfl,rfl,rfl,rfl,rfl,rfl⟩) (by rw [HU.out];exact { R9.out.ok with marks:=Nat.zero_le _ }))
  have EM:=h_ (E9.out.trans (R9.out.evoOb ks));obtain ⟨ZM,jm,em⟩:=HJ.out _ _ _ RM.out EM.out;have JM:=h_ jm;have EZ:=h_ em;have c19:w9.cell? ⟨G.ob,19,none⟩=some G.reset:=R9.out.o19;have HM:=h_ (show (((w9.setCell ⟨G.ob,4,none⟩ (.bool false)).setCell ⟨G.ob,5,none⟩ (.bool false)).setCell ⟨G.ob,3,none⟩ (.slice none 0 0))=_ from rfl)
  clear jm em ks RM EM HJ HU HK
  rcases RS.out with ⟨hrv,hid⟩ | ⟨k,first,cap,hrv,hent,hcon⟩
  · rw [hrv] at c19
    have HQ2:=h_ (HQ.out.trans (by rw [hid]))
    have hnn:=neq_nn;clear hrv hid RS HQ;rw [← HM.out] at JM;obtain ⟨gq,c1,hsk⟩:=HSK.out _ _ _ JM.out;have HS:=h_ hsk;clear hsk HSK HM;go_wp2_with fail;refine HS.out.mono ?_;rintro e' wF ⟨rfl,ZF,jF,kF⟩;have JF:=h_ jF;have EF:=h_ (EZ.out.trans kF);clear jF kF;go_wp2_with fail;go_end0
    rw [HQ2.out];exact ⟨rfl,_,JF.out,EF.out⟩
  · rw [hrv] at c19
    have hnf:=neq_fn;have hent2:∀ (args:Array Value) (w:World),(callFunc k args).run Tryz.prog w=.ok (.enter k args) w:=hent;have HC:=h_ (hcon _ _ _ JM.out);clear hrv hent hcon RS HM;go_wp2_with fail;refine HC.out.mono ?_;rintro e' wE ⟨rfl,ZE,jE,kE⟩;have JE:=h_ jE;have EE:=h_ (EZ.out.trans kE);obtain ⟨gq,c1,hsk⟩:=HSK.out _ _ _ JE.out;have HS:=h_ hsk;clear hsk HSK jE kE;go_wp2_with fail;refine HS.out.mono ?_;rintro e' wF ⟨rfl,ZF,jF,kF⟩;have JF:=h_ jF;have EF:=h_ (EE.out.trans kF);clear jF kF;go_wp2_with fail;go_end0
    rw [HQ.out];exact ⟨rfl,_,JF.out,EF.out⟩
end Go.Proofs.Shed
namespace Go.Proofs.Shed
open Go.RowKit Go.Proofs.Cod
namespace Rd
def Fi (κ:Kp) (f:Int) (r:Rd):Prop:=VM.Cd κ r.v∧r.v.fuel≤f∧(r.meth=true→κ.m)∧r.src.length+40*r.v.fuel.toNat≤κ.b
def Fine (κ:Kp) (f:Int) (q:Rd × Int):Prop:=Fi κ f q.1∧Sixty q.2
def Fine3 {β:Type} (κ:Kp) (f:Int) (q:Rd × β × Int):Prop:=Fi κ f q.1∧Sixty q.2.2
variable {κ:Kp} {f:Int} {r:Rd}
theorem fine_of (h:Fi κ f r) {c:Int} (hc:Kd c):Fine κ f (r,c):=⟨h,hc.sx⟩
theorem sxk {c:Int} (h:Kd c):Sixty c:=h.sx
theorem fine_bind {q:Rd × Int} {F:Rd→Rd × Int} (h:Fine κ f q) (hF:∀ r,Fi κ f r→Fine κ f (F r)):Fine κ f (bind q F):=by
 unfold bind;split
 · exact h
 · exact hF _ h.1
theorem fine_vm (h:Fi κ f r) {q:VM × Int} (hq:VM.Fn κ q) (hf:q.1.fuel≤r.v.fuel):Fine κ f (r.vm q):=⟨⟨hq.1,Int.le_trans hf h.2.1,h.2.2.1,by have:=h.2.2.2;show r.src.length+40*q.1.fuel.toNat≤κ.b;omega⟩,hq.2⟩
theorem fine_sp (h:Fi κ f r) {q:Sp × Int} (hq:Kd q.2):Fine κ f (r.vm (r.v.setSp q)):=⟨⟨h.1,h.2⟩,hq.sx⟩
theorem comma_fine (h:Fi κ f r) (n:Int):Fine κ f (r.comma n):=fine_sp h (Sp.comma_kd _ _)
theorem setCell_fine (h:Fi κ f r) (a n:Int):Fine κ f (r.setCell a n):=⟨⟨h.1,h.2⟩,(Mem.setCell_kd _ _ _).sx⟩
theorem push_fine (h:Fi κ f r) (l:List Int):Fine κ f (r.push l):=⟨⟨(VM.push_fn h.1 l).1,h.2⟩,(VM.push_fn h.1 l).2⟩
theorem commas_fine:∀ (l:List Int) {r:Rd},Fi κ f r→Fine κ f (commas l r)
 | [],_,h=>fine_of h VM.k0
 | n :: l,_,h=>fine_bind (comma_fine h n) (fun _ h=>commas_fine l h)
theorem compile_fine (h:Fi κ f r) (s:List UInt8) (l:List Int):Fine κ f (r.compile s l):=commas_fine _ h
theorem literal_fine (h:Fi κ f r) (l:List Int):Fine κ f (r.literal l):=by
 unfold literal;split
 · exact commas_fine _ h
 · exact push_fine h _
theorem name_kd (r:Rd):Kd r.name.2.2:=by
 unfold name;simp only
 split <;> (unfold Kd;simp)
theorem find_fine (h:Fi κ f r):Fine3 κ f r.find:=by
 unfold find;split
 · exact ⟨h,(name_kd r).sx⟩
 · split
   · exact ⟨h,VM.k0.sx⟩
   · exact ⟨h,sxk (by unfold Kd;simp)⟩
theorem keep_fi (h:Fi κ f r):Fi κ f r.keep:=by unfold keep;split <;> exact h
theorem back_fi (h:Fi κ f r) (a l n:Int):Fi κ f (r.backTo a l n):=h
theorem and_kd {q:Sp × Int} {F:Sp→Sp × Int} (h:Kd q.2) (hF:∀ x,Kd (F x).2):Kd (Sp.andThen q F).2:=by
 unfold Sp.andThen;split
 · exact h
 · exact hF _
theorem create_kd (x:Sp) (list:Int) (s:List UInt8) (fl cd:Int):Kd (x.create list s fl cd).2.2:=by
 have h0:Kd (x.cr0 list).2:=by unfold Sp.cr0;split;exact Sp.align_kd _;exact Mem.cell_kd _ _
 have h6:Kd (x.cr6 list s fl cd).2:=and_kd (and_kd (and_kd (and_kd (and_kd (and_kd h0 (fun _=>Sp.comma_kd _ _)) (fun _=>Sp.comma_kd _ _)) (fun _=>Sp.chars_kd _ _)) (fun _=>Sp.align_kd _)) (fun _=>Sp.comma_kd _ _)) (fun _=>Mem.setCell_kd _ _ _)
 unfold Sp.create;split
 · unfold Kd;simp
 · split
   · exact h6
   · exact VM.k0
theorem made2_fine (h:Fi κ f r) (list:Int) (s:List UInt8) (n fl:Int) (l:List Int):Fine κ f (r.made2 list s n fl l):=by
 unfold made2;split
 · exact ⟨h,(create_kd _ _ _ _ _).sx⟩
 · exact commas_fine _ (r:=r.made list s n fl) h
theorem make_fine (h:Fi κ f r) (list:Int) (s:List UInt8) (n fl:Int) (l:List Int):Fine3 κ f (r.make list s n fl l):=by
 have h1:=made2_fine h list s n fl l;unfold make;split
 · exact ⟨back_fi h1.1 _ _ _,h1.2⟩
 · exact ⟨h1.1,VM.k0.sx⟩
theorem create_fine (h:Fi κ f r) (n fl:Int) (l:List Int):Fine3 κ f (r.create n fl l):=by
 unfold create;split
 · exact ⟨h,(name_kd r).sx⟩
 · exact make_fine (r:=r.next) h _ _ _ _ _
theorem stop_fine (h:Fi κ f r):Fine κ f r.stop:=by
 unfold stop;split
 · exact fine_of h (by unfold Kd;omega)
 · exact ⟨h,VM.k0.sx⟩
theorem mark_kd (m:Mem) (a fl:Int):Kd (m.markWd a fl).2:=by
 unfold Mem.markWd;split
 · unfold Kd;simp
 · split
   · unfold Kd;simp
   · exact Mem.setCell_kd _ _ _
theorem mark_fine (h:Fi κ f r) (d:Wd) (fl:Int):Fine κ f (r.mark d fl):=⟨h,(mark_kd _ _ _).sx⟩
theorem found_fine (h:Fi κ f r) (d:Wd):Fine κ f (r.found d):=by
 unfold found;split
 · split
   · exact fine_of h (by unfold Kd;omega)
   · exact comma_fine h _
 · split
   · exact fine_of h (by unfold Kd;omega)
   · exact fine_vm h (VM.run_fn h.1 _) (VM.run_fuel _ _)
theorem mopen_fine (h:Fi κ f r) (k a:Int):Fine κ f (r.mopen k a):=by
 unfold mopen;split
 · exact fine_of h (by unfold Kd;omega)
 · exact ⟨h,VM.k0.sx⟩
theorem mclose_fine (h:Fi κ f r) (k:Int):Fine3 κ f (r.mclose k):=by
 unfold mclose;split
 · exact ⟨h,sxk (by unfold Kd;simp)⟩
 · split
   · exact ⟨h,sxk (by unfold Kd;simp)⟩
   · exact ⟨h,VM.k0.sx⟩
theorem close_fine (h:Fi κ f r) (k:Int) {F:Rd→Int→Rd × Int} (hF:∀ r a,Fi κ f r→Fine κ f (F r a)):Fine κ f (r.close k F):=by
 unfold close;split
 · exact mclose_fine h k
 · exact hF _ _ (mclose_fine h k).1
theorem colon_fine (h:Fi κ f r):Fine κ f r.colon:=by
 unfold colon;split
 · exact fine_of h (by unfold Kd;omega)
 · split
   · exact create_fine (keep_fi h) _ _ _
   · exact ⟨⟨(create_fine (keep_fi h) 1001 2 []).1.1,(create_fine (keep_fi h) 1001 2 []).1.2.1,(fun e=>nomatch e),(create_fine (keep_fi h) 1001 2 []).1.2.2.2⟩,VM.k0.sx⟩
theorem semiEnd_fi (h:Fi κ f r):Fi κ f r.semiEnd:=by
 unfold semiEnd;simp only
 split <;> exact h
theorem semicolon_fine (h:Fi κ f r):Fine κ f r.semicolon:=by
 unfold semicolon;split
 · exact fine_of h (by unfold Kd;omega)
 · exact fine_bind (stop_fine h) (fun _ h=>fine_bind (compile_fine h _ _) (fun _ h=>⟨semiEnd_fi h,VM.k0.sx⟩))
theorem immediate_fine (h:Fi κ f r):Fine κ f r.immediate:=by
 unfold immediate;split
 · exact fine_of h (by unfold Kd;omega)
 · exact mark_fine h _ _
theorem recurse_fine (h:Fi κ f r):Fine κ f r.recurse:=by
 unfold recurse;split
 · exact fine_of h (by unfold Kd;omega)
 · exact comma_fine h _
theorem exit_fine (h:Fi κ f r):Fine κ f r.exit:=by unfold exit;split <;> exact compile_fine h _ _
theorem defining_fine (h:Fi κ f r) (n:Int) (l:List Int):Fine κ f (r.defining n l):=by
 unfold defining;split
 · exact fine_of h (by unfold Kd;omega)
 · exact create_fine h _ _ _
theorem constant_fine (h:Fi κ f r):Fine κ f r.constant:=by
 unfold constant;have hp:=VM.pop_cd h.1;split
 · exact fine_of h (by unfold Kd;omega)
 · split
   · exact ⟨⟨hp.1,h.2⟩,hp.2⟩
   · exact create_fine (r:={ r with v:=r.v.pop.1 }) ⟨hp.1,h.2⟩ _ _ _
theorem forward_fine (h:Fi κ f r) (s:List UInt8) (k:Int):Fine κ f (r.forward s k):=fine_bind (compile_fine h _ _) (fun _ h=>mopen_fine h _ _)
theorem patch_fine (h:Fi κ f r) (k:Int):Fine κ f (r.patch k):=close_fine h k (fun _ _ h=>setCell_fine h _ _)
theorem backw_fine (h:Fi κ f r) (s:List UInt8) (k:Int):Fine κ f (r.back s k):=close_fine h k (fun _ _ h=>compile_fine h _ _)
theorem otherwise_fine (h:Fi κ f r):Fine κ f r.otherwise:=close_fine h 0 (fun _ _ h=>fine_bind (forward_fine h _ _) (fun _ h=>setCell_fine h _ _))
theorem repeat_fine (h:Fi κ f r):Fine κ f r.repeat_:=close_fine h 2 (fun _ _ h=>fine_bind (backw_fine h _ _) (fun _ h=>setCell_fine h _ _))
theorem do_fine (h:Fi κ f r):Fine κ f r.do_:=fine_bind (compile_fine h _ _) (fun _ h=>mopen_fine h _ _)
theorem store_fine (h:Fi κ f r) (t:List UInt8):Fine3 κ f (r.store t):=by
 unfold store;simp only
 split
 · exact ⟨h,(Sp.chars_kd _ _).sx⟩
 · exact ⟨h,(Sp.align_kd _).sx⟩
theorem text_fine (h:Fi κ f r):Fine κ f r.text:=by
 unfold text;split
 · refine fine_bind (forward_fine (r:=r.parsed 34) h _ _) (fun u h=>?_)
   split
   · exact store_fine h _
   · exact fine_bind (patch_fine (store_fine h _).1 _) (fun _ h=>literal_fine h _)
 · unfold textP
   split
   · exact store_fine (r:=r.parsed 34) h _
   · exact push_fine (store_fine (r:=r.parsed 34) h _).1 _
theorem say_fine (h:Fi κ f r):Fine κ f r.say:=by
 unfold say;split
 · exact fine_bind (text_fine h) (fun _ h=>compile_fine h _ _)
 · exact ⟨h,VM.k0.sx⟩
theorem char_fine (h:Fi κ f r):Fine κ f r.char:=by
 unfold char;split
 · exact fine_of (r:=r.next) h (by unfold Kd;omega)
 · exact literal_fine (r:=r.next) h _
theorem tick_fine (h:Fi κ f r):Fine κ f r.tick:=by
 unfold tick;split
 · exact find_fine h
 · exact literal_fine (find_fine h).1 _
def WF (κ:Kp) (F:Rd→Rd × Int):Prop:=∀ (f:Int) (r:Rd),Fi κ f r→Fine κ f (F r)
theorem WF.ite {c:Prop} [Decidable c] {a b:Rd→Rd × Int} (ha:WF κ a) (hb:WF κ b):WF κ (fun r=>if c then a r else b r):=by
 intro f r h
 show Fine κ f (if c then a r else b r)
 split
 · exact ha f r h
 · exact hb f r h
theorem doW_fine (k:Nat):WF κ (doW k):=by
 have e:doW k=fun r=>doW k r:=rfl
 rw [e];unfold doW;refine WF.ite (fun f r h=>colon_fine h) ?_
 refine WF.ite (fun f r h=>semicolon_fine h) ?_
 refine WF.ite (fun f r h=>immediate_fine h) ?_
 refine WF.ite (fun f r h=>recurse_fine h) ?_
 refine WF.ite (fun f r h=>exit_fine h) ?_
 refine WF.ite (fun f r h=>defining_fine h _ _) ?_
 refine WF.ite (fun f r h=>defining_fine h _ _) ?_
 refine WF.ite (fun f r h=>constant_fine h) ?_
 refine WF.ite (fun f r h=>forward_fine h _ _) ?_
 refine WF.ite (fun f r h=>otherwise_fine h) ?_
 refine WF.ite (fun f r h=>patch_fine h _) ?_
 refine WF.ite (fun f r h=>mopen_fine h _ _) ?_
 refine WF.ite (fun f r h=>backw_fine h _ _) ?_
 refine WF.ite (fun f r h=>backw_fine h _ _) ?_
 refine WF.ite (fun f r h=>forward_fine h _ _) ?_
 refine WF.ite (fun f r h=>repeat_fine h) ?_
 refine WF.ite (fun f r h=>do_fine h) ?_
 refine WF.ite (fun f r h=>backw_fine h _ _) ?_
 refine WF.ite (fun f r h=>backw_fine h _ _) ?_
 refine WF.ite (fun f r h=>⟨h,VM.k0.sx⟩) ?_
 refine WF.ite (fun f r h=>⟨h,VM.k0.sx⟩) ?_
 refine WF.ite (fun f r h=>text_fine h) ?_
 refine WF.ite (fun f r h=>say_fine h) ?_
 refine WF.ite (fun f r h=>char_fine h) ?_
 exact fun f r h=>tick_fine h
theorem doK_fine (h:Fi κ f r) (kd:Wk):Fine κ f (r.doK kd):=by
 cases kd with
 | plain k=>exact doW_fine k f r h
 | only k =>
  show Fine κ f (if _ then _ else _)
  split
  · exact fine_of h (by unfold Kd;omega)
  · exact doW_fine k f r h
theorem own_fine (h:Fi κ f r) (s:List UInt8):Fine κ f (r.own s):=by
 unfold own;split
 · exact doK_fine h _
 · unfold other
   split
   · exact found_fine h _
   · split
     · exact literal_fine h _
     · exact fine_of h (by unfold Kd;omega)
theorem failed_fi (h:Fi κ f r) (e:Int):Fi κ f (r.failed e):=by
 have h1:VM.Cd κ ({ r with v:=emptied r.v e }:Rd).v:=by
  show VM.Cd κ (emptied r.v e)
  unfold emptied;exact (VM.rdrop_fn (VM.ddrop_fn (v:=r.v.put (errText e)) h.1 0).1 0).1
 unfold failed;simp only
 split
 · exact ⟨h1,h.2.1,(fun e=>nomatch e),h.2.2.2⟩
 · exact ⟨h1,h.2.1,(fun e=>nomatch e),h.2.2.2⟩
end Rd
end Go.Proofs.Shed
namespace Go.Proofs.Shed
open Go Go.RowKit Go.Proofs.K Go.Proofs.Cod
structure ExtFine {α:Type} (κ:Kp) (E:Ext α):Prop where
 word:∀ low f (q:Rd × α),Rd.Fi κ f q.1→q.1.src.length+40*(q.1.v.fuel.toNat+1)≤κ.b→Rd.Fi κ f (E.word low q).1.1∧Sixty (E.word low q).2
 reset:∀ f (q:Rd × α),Rd.Fi κ f q.1→Rd.Fi κ f (E.reset q).1
 good:∀ f (r:Rd),Rd.Fi κ f r→r.src.length+40*(r.v.fuel.toNat+1)≤κ.b→E.good r
def K0 (b:Nat):Kp:=⟨0,True,b⟩
theorem doIt_fine {α:Type} {κ:Kp} {E:Ext α} (hE:ExtFine κ E) (s:List UInt8) (f:Int) (q:Rd × α) (h:Rd.Fi κ f q.1) (hs:q.1.src.length+40*(q.1.v.fuel.toNat+1)≤κ.b):Rd.Fi κ f (E.doIt s q).1.1∧Sixty (E.doIt s q).2:=by
 unfold Ext.doIt;split
 · exact hE.word _ f q h hs
 · exact ⟨(Rd.own_fine h s).1,(Rd.own_fine h s).2⟩
theorem fail_fi {α:Type} {κ:Kp} {E:Ext α} (hE:ExtFine κ E) (e f:Int) (q:Rd × α) (h:Rd.Fi κ f q.1):Rd.Fi κ f (E.fail q e).1:=hE.reset f (q.1.failed e,q.2) (Rd.failed_fi h e)
theorem nextW_len (r:Rd):r.nextW.length≤r.src.length:=by
 unfold Rd.nextW Src.word;simp only
 refine Nat.le_trans (List.takeWhile_sublist _).length_le ?_;rw [List.length_drop];omega
section
variable {α:Type} {E:Ext α} {RE:World→(Nat→Prop)→α→Prop} {G:Gk}
theorem rj_next (ok:ExtOk E RE G) (w:World) (Z:Nat→Prop) (q:Rd × α) (hz:RJ RE G w Z q) :
 ∃ g,w.cell? ⟨G.ob,1,none⟩=some (.pointer (some ⟨g,0,none⟩))∧Calls Tryz.prog 76 #[.pointer (some ⟨g,0,none⟩)] w fun e w'=>e=.returned (.string ⟨q.1.nextW.toArray⟩)∧∃ Z',RJ RE G w' Z' (q.1.next,q.2)∧Evo w Z w' Z':=by
 obtain ⟨X,Y,h1,h2,h3,h4⟩:=hz.parts;obtain ⟨g,hg,hc⟩:=rd_word G X w q.1 h1;exact ⟨g,hg,hc.mono fun e w' ⟨he,X',hr,ev⟩=>⟨he,RJ.of ok hz h1 h2 h3 h4 hr ev⟩⟩
theorem rj_fuel (ok:ExtOk E RE G) (w:World) (Z:Nat→Prop) (q:Rd × α) (n:Int) (n0 : -9223372036854775808≤n) (n1:n≤9223372036854775807) (hz:RJ RE G w Z q) :
 ∃ Z',RJ RE G (w.setCell ⟨G.K.mb,10,none⟩ (.int .i64 n)) Z' ({ q.1 with v:={ q.1.v with fuel:=n } },q.2)∧Evo w Z (w.setCell ⟨G.K.mb,10,none⟩ (.int .i64 n)) Z':=by
 obtain ⟨X,Y,h1,h2,h3,h4⟩:=hz.parts;have k:Keeps G.K.foot w (w.setCell ⟨G.K.mb,10,none⟩ (.int .i64 n)):=foot_mb G.K (Keeps.setCell _ _ _ (fun _=>rfl))
 exact RJ.of ok hz h1 h2 h3 h4 (h1.vm (h1.fv.setFuel n n0 n1) k) (h1.evo k)
theorem RJ.rd {w:World} {Z:Nat→Prop} {q:Rd × α} (h:RJ RE G w Z q):∃ X,RRd w G X q.1:=h.parts.elim fun X h=>h.elim fun _ h=>⟨X,h.1⟩
theorem rj_newSrc (ok:ExtOk E RE G) (w w1:World) (Z:Nat→Prop) (q:Rd × α) (g:Nat) (t:List UInt8) (hz:RJ RE G w Z q) (k:Keeps (fun _=>False) w w1) (hg:w.heap.size≤g) (s1:RSrc w1 g t 0) (ht:t.length≤1000000) :
 ∃ Z',RJ RE G (w1.setCell ⟨G.ob,1,none⟩ (.pointer (some ⟨g,0,none⟩))) Z' (q.1.again t,q.2)∧Evo w Z (w1.setCell ⟨G.ob,1,none⟩ (.pointer (some ⟨g,0,none⟩))) Z':=by
 obtain ⟨X,Y,h1,h2,h3,h4⟩:=hz.parts;have:=h1.newSrc k hg s1 ht;exact RJ.of ok hz h1 h2 h3 h4 this.1 this.2
def Left (b:Nat) (E:Ext α) (k:Nat) (q:Rd × α) (last:Int) (Q:(Rd × α) × Int):Prop:=E.readN k (q,last)=Q∧q.1.v.fuel.toNat+1≤k∧Rd.Fi (K0 b) q.1.v.fuel q.1
theorem Left.over {b k:Nat} {q:Rd × α} {last:Int} {Q:(Rd × α) × Int} (h:Left b E k q last Q) (ho:q.1.v.over=true):Q=(q,last):=by
 obtain ⟨h1,h2,_⟩:=h;obtain ⟨j,rfl⟩:∃ j,k=j+1:=⟨k-1,by omega⟩
 rw [← h1,Ext.readN,if_pos ho]
theorem Left.empty {b k:Nat} {q:Rd × α} {last:Int} {Q:(Rd × α) × Int} (h:Left b E k q last Q) (ho:q.1.v.over=false) (hw:q.1.nextW=[]):Q=((q.1.next,q.2),last):=by
 obtain ⟨h1,h2,_⟩:=h;obtain ⟨j,rfl⟩:∃ j,k=j+1:=⟨k-1,by omega⟩
 rw [← h1,Ext.readN,if_neg (by rw [ho];simp),if_pos hw]
theorem Left.dry {b k:Nat} {q:Rd × α} {last:Int} {Q:(Rd × α) × Int} (h:Left b E k q last Q) (ho:q.1.v.over=false) (hw:q.1.nextW≠[]) (hf:q.1.v.fuel≤0):Q=(E.fail (q.1.next,q.2) (-2053),-2053):=by
 obtain ⟨h1,h2,_⟩:=h;obtain ⟨j,rfl⟩:∃ j,k=j+1:=⟨k-1,by omega⟩
 rw [← h1,Ext.readN,if_neg (by rw [ho];simp),if_neg hw,if_pos hf]
def fueled (q:Rd × α):Rd × α:=({ q.1.next with v:={ q.1.v with fuel:=q.1.v.fuel-1 } },q.2)
theorem Left.go {b:Nat} (hE:ExtFine (K0 b) E) {k:Nat} {q:Rd × α} {last:Int} {Q:(Rd × α) × Int} (h:Left b E k q last Q) (ho:q.1.v.over=false) (hw:q.1.nextW≠[]) (hf:0<q.1.v.fuel) :
 (E.doIt q.1.nextW (fueled q)).1.1.v.fuel<q.1.v.fuel∧Sixty (E.doIt q.1.nextW (fueled q)).2 ∧
 ((E.doIt q.1.nextW (fueled q)).2=0→Left b E (k-1) (E.doIt q.1.nextW (fueled q)).1 last Q) ∧
 ((E.doIt q.1.nextW (fueled q)).2 = -2053→Q=(E.fail (E.doIt q.1.nextW (fueled q)).1 (-2053),-2053)) ∧
 ((E.doIt q.1.nextW (fueled q)).2≠0→(E.doIt q.1.nextW (fueled q)).2 ≠ -2053→(E.fail (E.doIt q.1.nextW (fueled q)).1 (E.doIt q.1.nextW (fueled q)).2).1.v.fuel<q.1.v.fuel∧Left b E (k-1) (E.fail (E.doIt q.1.nextW (fueled q)).1 (E.doIt q.1.nextW (fueled q)).2) (E.doIt q.1.nextW (fueled q)).2 Q):=by
 obtain ⟨h1,h2,h3⟩:=h;obtain ⟨j,rfl⟩:∃ j,k=j+1:=⟨k-1,by omega⟩
 have hd:=doIt_fine hE q.1.nextW (q.1.v.fuel-1) (fueled q) ⟨h3.1,Int.le_refl _,(fun _=>trivial),by have:=h3.2.2.2;show q.1.src.length+40*(q.1.v.fuel-1).toNat≤b;have:(K0 b).b=b:=rfl;omega⟩ (by have:=h3.2.2.2;show q.1.src.length+40*((q.1.v.fuel-1).toNat+1)≤b;have:(K0 b).b=b:=rfl;omega)
 rw [Ext.readN,if_neg (by rw [ho];simp),if_neg hw,if_neg (show ¬ (q,last).1.1.v.fuel≤0 from by show ¬ q.1.v.fuel≤0;omega)] at h1
 have hp:E.doIt q.1.nextW ({ q.1.next with v:={ q.1.v with fuel:=q.1.v.fuel-1 } },q.2)=E.doIt q.1.nextW (fueled q):=rfl;simp only [hp] at h1
 generalize E.doIt q.1.nextW (fueled q)=p at h1 hd ⊢;have hle:=hd.1.2.1;refine ⟨by omega,hd.2,fun e=>⟨?_,?_,hd.1.1,Int.le_refl _,(fun _=>trivial),hd.1.2.2.2⟩,fun e=>?_,fun e1 e2=>?_⟩
 · rw [if_pos e] at h1;exact h1
 · omega
 · rw [if_neg (by omega),if_pos e,e] at h1;exact h1.symm
 · have hfl:=fail_fi hE p.2 p.1.1.v.fuel p.1 ⟨hd.1.1,Int.le_refl _,(fun _=>trivial),hd.1.2.2.2⟩
   have hle2:=hfl.2.1;rw [if_neg e1,if_neg e2] at h1;exact ⟨by omega,h1,by omega,hfl.1,Int.le_refl _,(fun _=>trivial),hfl.2.2.2⟩
theorem Left.good {b:Nat} (hE:ExtFine (K0 b) E) {k:Nat} {q:Rd × α} {last:Int} {Q:(Rd × α) × Int} (h:Left b E k q last Q) (hf:0<q.1.v.fuel):E.good (fueled q).1:=by
 have h3:=h.2.2;exact hE.good (q.1.v.fuel-1) (fueled q).1 ⟨h3.1,Int.le_refl _,(fun _=>trivial),by have:=h3.2.2.2;show q.1.src.length+40*(q.1.v.fuel-1).toNat≤b;have:(K0 b).b=b:=rfl;omega⟩ (by have:=h3.2.2.2;show q.1.src.length+40*((q.1.v.fuel-1).toNat+1)≤b;have:(K0 b).b=b:=rfl;omega)
theorem rj_text (b:Nat) (ok:ExtOk E RE G) (rs:ResetOk E RE G) (hE:ExtFine (K0 b) E) (w:World) (Z:Nat→Prop) (q:Rd × α) (t:List UInt8) (ht:t.length≤1000000) (hcd:VM.Cd (K0 b) q.1.v) (hb:t.length+40*q.1.v.fuel.toNat≤b) (hz:RJ RE G w Z q) :
 Calls Tryz.prog 17 #[.pointer (some ⟨G.ob,0,none⟩),.string ⟨t.toArray⟩] w (PJ RE G Z w (E.read t q)):=by
 have HN:=h_ fun V=>src_new V t (by omega)
 have HNS:=h_ fun w1 g k hg s1=>rj_newSrc ok w w1 Z q g t hz k hg s1 ht
 have hl:Left b E (q.1.v.fuel.toNat+2) (q.1.again t,q.2) 0 (E.read t q):=⟨rfl,by show q.1.v.fuel.toNat+1≤_;omega,hcd,Int.le_refl _,(fun _=>trivial),hb⟩
 have HL:=h_ hl;generalize E.read t q=Q at HL ⊢;have HNX:=h_ fun V Z' (u:Rd × α) (hV:RJ RE G V Z' u)=>rj_next ok V Z' u hV
 have HFU:=h_ fun V Z' (u:Rd × α) n n0 n1 (hV:RJ RE G V Z' u)=>rj_fuel ok V Z' u n n0 n1 hV
 have HWD:=h_ fun V Z' (u:Rd × α) s hs hgd (hV:RJ RE G V Z' u)=>rj_word ok V Z' u s hs hgd hV
 have HFL:=h_ fun V Z' (u:Rd × α) e hx (hV:RJ RE G V Z' u)=>rj_fail ok rs V Z' u e hx hV
 have HE:=h_ hE;have o1:∃ g,w.cell? ⟨G.ob,1,none⟩=some (.pointer (some ⟨g,0,none⟩)):=(HNX.out w Z q hz).elim fun g h=>⟨g,h.1⟩
 obtain ⟨g0,o1⟩:=o1;have J0:=h_ hz;have hfr:=hz.rd.elim fun X h=>h.free 1
 have hob:=hz.rd.elim fun X h=>h.lts.1
 clear hl hcd hb hz ok rs hE
 go_enter Tryz.func17,Tryz.ntmps17
 go_wp2_with fail;refine (HN.out w).mono ?_;rintro e w1 ⟨rfl,s1,k1⟩;obtain ⟨g1,hg1⟩:∃ g1,g1=w.heap.size:=⟨_,rfl⟩;rw [← hg1] at s1 ⊢;obtain ⟨Z1,j1,e1⟩:=HNS.out w1 g1 k1 (by omega) s1
 have J1:=h_ j1;have E1:=h_ e1;have p1:=k1.cell o1 id;have f1:=k1.frozen hfr hob id;clear j1 e1 s1 k1 HNS HN o1 hfr hg1;go_wp2_with fail;generalize w1.setCell ⟨G.ob,1,none⟩ (.pointer (some ⟨g1,0,none⟩))=W at J1 E1 ⊢
 go_loopw [5] (fun lv wr=>∃ (k:Nat) (u:Rd × α) (last:Int) (Y:Nat→Prop),lv=.int .i64 last∧RJ RE G wr Y u∧Evo w Z wr Y∧Left b E k u last Q) (fun _ wr=>match wr.cell? ⟨G.K.mb,10,none⟩ with | some (.int _ n)=>n.toNat | _=>0)
 case atStart=>exact ⟨_,_,0,Z1,rfl,J1.out,E1.out,HL.out⟩
 case round =>
  obtain ⟨k,u,last,Y,rfl,hj,hev,hlf⟩:=hrel;have J2:=h_ hj;have E2:=h_ hev;have HLF:=h_ hlf;obtain ⟨X2,r2⟩:=hj.rd;have o0:wr.cell? ⟨G.ob,0,none⟩=some (.pointer (some ⟨G.K.mb,0,none⟩)):=r2.o0;have v13:wr.cell? ⟨G.K.mb,13,none⟩=some (.bool u.1.v.over):=r2.v13;have v10:=h_ (show wr.cell? ⟨G.K.mb,10,none⟩=some (.int .i64 u.1.v.fuel) from r2.v10)
  have hsl:=r2.ok.src;have hfl0:=r2.fv.ok.fuel0;have hfl1:=r2.fv.ok.fuel1;obtain ⟨gq,o1,hnx⟩:=HNX.out wr Y u hj;have HW:=h_ hnx;have hnl:=nextW_len u.1;clear hj hev hlf r2 hnx HL
  cases ho:u.1.v.over with
  | true =>
   rw [ho] at v13;have HQ:=h_ (HLF.out.over ho);clear ho;go_wp2_with fail;go_ret
   rw [HQ.out];exact ⟨rfl,_,J2.out,E2.out⟩
  | false =>
   rw [ho] at v13;have HO:=h_ ho;clear ho;by_cases hw:u.1.nextW=[]
   · have HQ:=h_ (HLF.out.empty HO.out hw)
     rw [hw] at HW;clear hw;go_wp2_with fail;refine HW.out.mono ?_;rintro e w3 ⟨rfl,Z3,j3,k3⟩;have J3:=h_ j3;have E3:=h_ (E2.out.trans k3);clear j3 k3;go_wp2_with fail;go_ret
     rw [HQ.out];exact ⟨rfl,_,J3.out,E3.out⟩
   · have hne:u.1.nextW.isEmpty=false:=by cases h:u.1.nextW with | nil=>exact absurd h hw | cons=>rfl
     by_cases hf:u.1.v.fuel≤0
     · have HQ:=h_ (HLF.out.dry HO.out hw hf)
       have d1:decide (0<u.1.v.fuel)=false:=decide_eq_false (by omega)
       have HFF:=h_ fun V Z' (hV:RJ RE G V Z' (u.1.next,u.2))=>HFL.out V Z' (u.1.next,u.2) (-2053) (by unfold Sixty;omega) hV
       have HV:=h_ fun V Z' (hV:RJ RE G V Z' (u.1.next,u.2))=>(show V.cell? ⟨G.ob,0,none⟩=some (.pointer (some ⟨G.K.mb,0,none⟩))∧V.cell? ⟨G.K.mb,10,none⟩=some (.int .i64 u.1.v.fuel) from hV.rd.elim fun X h=>⟨h.o0,h.v10⟩)
       generalize u.1.nextW=s at HW hne;clear hw hf hnl hsl hfl0 hfl1;go_wp2_with fail;refine HW.out.mono ?_;rintro e w3 ⟨rfl,Z3,j3,k3⟩;have J3:=h_ j3;have E3:=h_ (E2.out.trans k3);obtain ⟨p0,p10⟩:=HV.out w3 Z3 j3;clear j3 k3;go_wp2_with fail;refine (HFF.out w3 Z3 J3.out).mono ?_;rintro e w4 ⟨rfl,Z4,j4,k4⟩;have J4:=h_ j4;have E4:=h_ (E3.out.trans k4);clear j4 k4;go_wp2_with fail;go_ret
       rw [HQ.out];exact ⟨rfl,_,J4.out,E4.out⟩
     · have HG:=h_ (HLF.out.go HE.out HO.out hw (by omega))
       have hgood:=HLF.out.good HE.out (by omega)
       have d1:decide (0<u.1.v.fuel)=true:=decide_eq_true (by omega)
       have HFU2:=h_ fun V Z' (hV:RJ RE G V Z' (u.1.next,u.2))=>HFU.out V Z' (u.1.next,u.2) (u.1.v.fuel-1) (by omega) (by omega) hV
       have HWD2:=h_ fun V Z' (hV:RJ RE G V Z' (fueled u))=>HWD.out V Z' (fueled u) u.1.nextW (by omega) (fun _=>hgood) hV
       have HV:=h_ fun V Z' (hV:RJ RE G V Z' (u.1.next,u.2))=>(show V.cell? ⟨G.ob,0,none⟩=some (.pointer (some ⟨G.K.mb,0,none⟩))∧V.cell? ⟨G.K.mb,10,none⟩=some (.int .i64 u.1.v.fuel)∧V.frozen? ⟨G.K.mb,10,none⟩=false from hV.rd.elim fun X h=>⟨h.o0,h.v10,h.fv.free 10⟩)
       have hf1:0<u.1.v.fuel:=by omega
       generalize u.1.nextW=s at HW hne HG HWD2;generalize hp:E.doIt s (fueled u)=p at HG HWD2;obtain ⟨u2,e2⟩:=p;have HFL2:=h_ fun V Z' hx (hV:RJ RE G V Z' u2)=>HFL.out V Z' u2 e2 hx hV
       simp only at HG
       have hwf:wrap64 (u.1.v.fuel-1)=u.1.v.fuel-1:=IntWalk.wrap64_in _ (by omega)
       clear hw hf hnl hsl hp hgood;go_wp2_with fail;refine HW.out.mono ?_;rintro e w3 ⟨rfl,Z3,j3,k3⟩;obtain ⟨p0,p10,pf⟩:=HV.out w3 Z3 j3;obtain ⟨Z4,j4,k4⟩:=HFU2.out w3 Z3 j3;have J4:=h_ (show RJ RE G (w3.setCell ⟨G.K.mb,10,none⟩ (.int .i64 (u.1.v.fuel-1))) Z4 (fueled u) from j4)
       have E4:=h_ ((E2.out.trans k3).trans k4);clear j3 k3 j4 k4 hfl0 hfl1;go_wp2_with fail;refine (HWD2.out _ _ J4.out).mono ?_;rintro e w5 ⟨rfl,Z5,j5,k5⟩;have J5:=h_ j5;have E5:=h_ (E4.out.trans k5);clear j5 k5;by_cases h0:e2=0
       · subst h0
         have HLN:=h_ (HG.out.2.2.1 rfl);have HLT:=h_ HG.out.1;have c10:=h_ (J5.out.rd.elim fun X h=>h.v10)
         clear HG;go_wp2_with fail
         go_roundw
         case rel=>exact ⟨_,_,_,_,rfl,J5.out,E5.out,HLN.out⟩
         case measure =>
          have:=HLT.out;simp only [v10.out,c10.out]
          omega
       · have d2:(e2 == 0)=false:=by simp [h0]
         replace HFL2:=h_ (HFL2.out w5 Z5 HG.out.2.1 J5.out);by_cases h1:e2 = -2053
         · subst h1
           have HQ:=h_ (HG.out.2.2.2.1 rfl);clear HG h0;go_wp2_with fail;refine HFL2.out.mono ?_;rintro e w6 ⟨rfl,Z6,j6,k6⟩;have J6:=h_ j6;have E6:=h_ (E5.out.trans k6);clear j6 k6;go_wp2_with fail;go_ret
           rw [HQ.out];exact ⟨rfl,_,J6.out,E6.out⟩
         · have d3:(e2 == -2053)=false:=by simp [h1]
           have HLN:=h_ (HG.out.2.2.2.2 h0 h1);clear HG h0 h1;go_wp2_with fail;refine HFL2.out.mono ?_;rintro e w6 ⟨rfl,Z6,j6,k6⟩;have J6:=h_ j6;have E6:=h_ (E5.out.trans k6);have c10:=h_ (j6.rd.elim fun X h=>h.v10)
           clear j6 k6;go_wp2_with fail
           go_roundw
           case rel=>exact ⟨_,_,_,_,rfl,J6.out,E6.out,HLN.out.2⟩
           case measure =>
            have:=HLN.out.1;simp only [v10.out,c10.out]
            omega
end
end Go.Proofs.Shed
set_option maxRecDepth 100000
namespace Go.Proofs.Shed
open Go.RowKit Go.Proofs.Cod
def E0:Ext Unit:=⟨fun _=>false,fun _ q=>(q,0),id,fun _=>True⟩
theorem e0_fine (κ:Kp):ExtFine κ E0:=⟨fun _ _ _ h _=>⟨h,VM.k0.sx⟩,fun _ _ h=>h,fun _ _ _ _=>trivial⟩
theorem read_step (k:Nat) (r:Rd) (last:Int) (ho:r.v.over=false) (hw:r.nextW≠[]) (hf:¬ r.v.fuel≤0) (p:Rd × Int)
 (hp:({ r.next with v:={ r.v with fuel:=r.v.fuel-1 } }:Rd).own r.nextW=p) :
 E0.readN (k+1) ((r,()),last)=if p.2=0 then E0.readN k ((p.1,()),last) else if p.2 = -2053 then (((p.1.failed p.2).skip,()),p.2) else E0.readN k (((p.1.failed p.2).skip,()),p.2):=by
 subst hp;rw [Ext.readN,if_neg (show ¬ ((r,()),last).1.1.v.over=true by show ¬ r.v.over=true;rw [ho];simp),if_neg (show ¬ ((r,()),last).1.1.nextW=[] from hw),if_neg (show ¬ ((r,()),last).1.1.v.fuel≤0 from hf)]
 rfl
theorem read_end (k:Nat) (r:Rd) (last:Int) (ho:r.v.over=false) (hw:r.nextW=[]):E0.readN (k+1) ((r,()),last)=((r.next,()),last):=by
 rw [Ext.readN,if_neg (show ¬ ((r,()),last).1.1.v.over=true by show ¬ r.v.over=true;rw [ho];simp),if_pos (show ((r,()),last).1.1.nextW=[] from hw)]
theorem own_semi (r:Rd):r.own [59]=r.semicolon:=by
 have e:K_words (lower [59])=some (.plain 218):=by decide +kernel
 unfold Rd.own;rw [e];rfl
theorem drop_zero (s:Stk) (h:0≤s.most):(s.drop 0).1={ s with depth:=0 }:=by
 unfold Stk.drop;rw [if_neg (by omega),if_neg (by omega)]
theorem emptied_is (v:VM) (e:Int) (hd:0≤v.d.most) (hr:0≤v.r.most):Rd.emptied v e={ v.put (Rd.errText e) with d:={ v.d with depth:=0 },r:={ v.r with depth:=0 } }:=by
 show ({ v.put (Rd.errText e) with d:=(v.d.drop 0).1,r:=(v.r.drop 0).1 }:VM)=_
 rw [drop_zero _ hd,drop_zero _ hr]
theorem own_char (r:Rd):r.own [99,104,97,114]=r.char:=by
 have e:K_words (lower [99,104,97,114])=some (.plain 247):=by decide +kernel
 unfold Rd.own;rw [e];rfl
end Go.Proofs.Shed
namespace Go.Proofs.Shed
open Go.Proofs.Cod
def pfL (L:List Wd):List UInt8→Option Int:=L.foldl (fun f d=>fun s=>if s=d.name then some d.xt else f s) (fun _=>none)
def rd0 (v:VM):Rd:=⟨v,pfL (v.x.mem.words v.list),[],0,[v.list],[],false,false,Wd.none,Wd.none,0,0,false⟩
namespace L17
def m1 (d t r h:Int):Mem:=(Heap.put (Mem.zero (d+t*8+r*8+h).toNat) ⟨d+t*8+r*8,h,false⟩).1
def x1 (d t r h:Int):Sp:=(Class.root ⟨m1 d t r h,8,d,8⟩).1
def y (d t r h:Int):Sp:=match Vm.prims (x1 d t r h) with | some r=>r.1 | none=>⟨⟨0,0⟩,0,0,0⟩
def vm (d t r h:Int):VM:=VM.fresh d t r 4 h [] (y d t r h) 8 16 24 2824
structure Parts (d t r h:Int):Prop where
 ok:NewOk d t r h (m1 d t r h) (x1 d t r h) (y d t r h) 8 16 24 2824
 sz:(y d t r h).mem.size=(d+t*8+r*8+h).toNat
 base:(y d t r h).mem.cell 16=(10,0)
theorem pA:Parts 8000 20 20 400:=⟨⟨by decide,by decide,by decide,by decide,by decide,by decide,by decide,by decide +kernel,by decide +kernel,by decide +kernel⟩,by decide +kernel,by decide +kernel⟩
theorem pC:Parts 12000 60 30 400:=⟨⟨by decide,by decide,by decide,by decide,by decide,by decide,by decide,by decide +kernel,by decide +kernel,by decide +kernel⟩,by decide +kernel,by decide +kernel⟩
def src:List UInt8:=[58,32,115,113,32,100,117,112,32,42,32,59,32,53,32,115,113,32,46]
def r1:Rd:=rd0 { vm 8000 20 20 400 with fuel:=100 }
def out1:(Rd × Unit) × Int:=E0.read src (r1,())
theorem lives:out1.2=0∧out1.1.1.v.out=[50,53,32]:=by decide +kernel
end L17
end Go.Proofs.Shed
set_option maxRecDepth 10000
namespace Go.Proofs.Shed
open Go Go.RowKit Go.Proofs.K Go.Proofs.Cod
def RE0 (_:World) (Y:Nat→Prop) (_:Unit):Prop:=∀ g,¬ Y g
def Gk0 (K:Bk) (ob pm np mm:Nat):Gk:=⟨K,ob,pm,np,mm,0,fun _=>none,.nilFunc⟩
theorem ext0_ok (K:Bk) (ob pm np mm:Nat):ExtOk E0 RE0 (Gk0 K ob pm np mm) :=
 ⟨fun h _ _=>h,fun h g hg=>absurd hg (h g),fun _ _=>rfl,fun _ h=>by cases h⟩
theorem reset0_ok (K:Bk) (ob pm np mm:Nat):ResetOk E0 RE0 (Gk0 K ob pm np mm):=.inl ⟨rfl,fun _=>rfl⟩
theorem foldl_xt (L:List Wd) (f:List UInt8→Option Int) (F:List UInt8→Option Value) (h:∀ s,F s=(f s).map (Value.int .i64)) (s:List UInt8) :
 L.foldl xtOf F s=(L.foldl (fun f d=>fun s=>if s=d.name then some d.xt else f s) f s).map (Value.int .i64):=by
 induction L generalizing f F with
 | nil=>exact h s
 | cons d L ih =>
  rw [List.foldl_cons,List.foldl_cons];refine ih _ _ (fun s=>?_)
  unfold xtOf upd;by_cases e:s=d.name
  · rw [if_pos e,if_pos e];rfl
  · rw [if_neg e,if_neg e];exact h s
theorem foldl_pf (L:List Wd):L.foldl xtOf (fun _=>none)=fun s=>(pfL L s).map (Value.int .i64):=funext fun s=>foldl_xt L (fun _=>none) (fun _=>none) (fun _=>rfl) s
theorem own_lt {w:World} {e:TypeId} {sz n c g:Nat} {xs:List Value} (h:Own w e sz (some ⟨g,0,none⟩) n c xs):g<w.heap.size:=by
 rcases h.form with ⟨e2,_⟩ | ⟨g2,cur,e2,h2,_⟩
 · cases e2
 · cases e2
   exact lt_of_heap h2
theorem reader_of (w w':World) (K:Bk) (v:VM) (h:RFv w K v) (hg:Glo w) (hk:∀ g,g<4→¬ K.all g) (e:Ending) (hp:OuterPostS w K.mb v.list (v.x.mem.words v.list) e w') :
 ∃ ob pm np mm Z,e=.returned (.pointer (some ⟨ob,0,none⟩))∧RJ RE0 (Gk0 K ob pm np mm) w' Z (rd0 v,())∧(∀ g,Z g→K.all g∨w.heap.size≤g)∧Keeps (fun _=>False) w w':=by
 obtain ⟨g,q,la,m1,m2,he,hro,hla,hm1,hm2,hne,l1,l2,l3,l4,kw,l5,hsr⟩:=hp;rw [foldl_pf] at hm1;have hv:=h.keeps0 kw;have h4:=hg.lt;have hnk:∀ x,K.all x→x<w.heap.size:=fun x hx=>h.all_lt hx
 refine ⟨g,m1,_,m2,fun x=>K.all x∨(x=g∨x=q∨x=la∨x=m1∨x=m2),he,⟨⟨fun x=>K.all x∨(x=g∨x=q∨x=la∨x=m1∨x=m2),fun _=>False,⟨⟨q,some ⟨la,0,none⟩,1,none,0⟩,⟨hv,hro,hsr,hla,Own.nil _ _ _,hm1,hm2,?_,?_⟩,?_,?_⟩,fun _=>id,fun _ _=>id,fun x hx=>hx.elim id (fun e=>e.elim)⟩,?_,hg.keeps0 kw,?_⟩,?_,kw⟩
 · rintro x (hx | hx | hx | hx | hx | hx) hk
   · have:=hnk x hk;have e:x=g:=hx;omega
   · have:=hnk x hk;have e:x=q:=hx;omega
   · have:=hnk x hk;have e:la=x:=Option.some.inj hx;omega
   · cases hx
   · have:=hnk x hk;have e:x=m1:=hx;omega
   · have:=hnk x hk;have e:x=m2:=hx;omega
 · exact ⟨by show (0:Nat)≤1000000;decide,by show (1:Nat)≤1000000;decide,by show (0:Nat)≤100;decide,by show 0≤Wd.none.at_;decide,by show Wd.none.at_≤4194304;decide,by show 0≤Wd.none.at_;decide,by show Wd.none.at_≤4194304;decide⟩
 · rintro x ((hx | hx | hx | hx | hx | hx) | hx)
   · exact .inr (.inl hx)
   · exact .inr (.inr (.inl hx))
   · exact .inr (.inr (.inr (.inl (Option.some.inj hx).symm)))
   · cases hx
   · exact .inr (.inr (.inr (.inr (.inl hx))))
   · exact .inr (.inr (.inr (.inr (.inr hx))))
   · exact .inl hx
 · rintro x (hx | hx | hx | hx | hx | hx)
   · exact Nat.lt_of_lt_of_le (hnk x hx) kw.size
   · rw [hx];exact lt_of_heap hro
   · rw [hx];exact lt_of_heap hsr.head
   · rw [hx];exact own_lt hla
   · rw [hx];exact hm1.lt
   · rw [hx];exact hm2.lt
 · rintro x (hx | hx | hx | hx | hx | hx)
   · exact Nat.lt_of_lt_of_le (hnk x hx) kw.size
   · rw [hx];exact lt_of_heap hro
   · rw [hx];exact lt_of_heap hsr.head
   · rw [hx];exact own_lt hla
   · rw [hx];exact hm1.lt
   · rw [hx];exact hm2.lt
 · rintro x h0 (hx | hx | hx | hx | hx | hx)
   · exact hk x h0 hx
   · omega
   · omega
   · omega
   · omega
   · omega
 · rintro x (hx | hx | hx | hx | hx | hx)
   · exact .inl hx
   all_goals exact .inr (by omega)
theorem measS {n i:Nat} (h:i<n) (e:wrap64 ((i:Int)+1)=(i:Int)+1):n-(intOf (.int .i64 (wrap64 ((i:Int)+1)))).toNat<n-(intOf (.int .i64 (i:Int))).toNat:=by
 rw [e]
 show n-((i:Int)+1).toNat<n-(i:Int).toNat
 omega
theorem measS' {n i:Nat} (h:i<n):n-(intOf (.int .i64 ((i:Int)+1))).toNat<n-(intOf (.int .i64 (i:Int))).toNat:=by
 show n-((i:Int)+1).toNat<n-(i:Int).toNat
 omega
theorem VmPost.rfvx {dict data ret slots hz:Int} {inp:List UInt8} {y:Sp} {root base list caught:Int} {w w':World} {e:Ending} (h:VmPost dict data ret slots hz inp y root base list caught w e w')
 (d0:8≤dict) (d8:dict % 8=0) (t0:0≤data) (r0:0≤ret) (z0:0≤hz) (hi:inp.length≤1099511627776) (hs:dict+data*8+ret*8+hz≤y.mem.size) (hr0:0≤root∧root≤4194304) :
 ∃ K:Bk,e=.returned (.tuple #[.pointer (some ⟨K.mb,0,none⟩),.int .i64 0])∧RFv w' K (VM.fresh dict data ret slots hz inp y root base list caught)∧(∀ g,K.all g→w.heap.size≤g)∧Keeps (fun _=>False) w w':=by
 obtain ⟨mb,nb,pb,s,b,bb,db,rb,hb,lo,hi2,rfl,h1,h2,h3,h4,h5,h6,⟨f1,f2,f3,f4⟩,⟨l1,l2,l3,l4⟩,h8,h9,h10,h11,h12,n1,n2,n3,n4,k,_⟩:=h;have hlt:=lt_of_heap h5
 have hpb:pb≠bb:=by
  obtain ⟨n,g,_,hmm,_⟩:=h6;intro e;subst e;exact MapIs.noRow hmm _ _ _ h2.mem.rest
 refine ⟨⟨mb,s,b,bb,db,rb,hb,nb,pb,fun g=>lo≤g∧g<hi2⟩,rfl,⟨⟨h1,rfl,rfl,rfl,h2,h3,h4,h6,?_,?_⟩,h5,?_,?_⟩,?_,k⟩
 · intro g hg
   have hg:lo≤g∧g<hi2:=hg;dsimp only;omega
 · show (mb≠s∧mb≠b∧mb≠bb∧mb≠db∧mb≠rb)∧(db≠s∧db≠b∧db≠bb∧db≠rb)∧(rb≠s∧rb≠b∧rb≠bb)∧(pb≠mb∧pb≠s∧pb≠bb∧pb≠db∧pb≠rb)
   omega
 · exact { d8:=d8,dm:=(by show dict+data*8≤_;show _≤(y.mem.size:Int);omega),r8:=(by show (dict+data*8) % 8=0;omega),rm:=(by show dict+data*8+ret*8≤(y.mem.size:Int);omega),out:=by simp [VM.fresh],inp:=hi,fuel0:=by simp [VM.fresh],fuel1:=by simp [VM.fresh],h0:=by simp [VM.fresh],h1:=by simp [VM.fresh],lo0:=(by show 0≤dict+data*8+ret*8;omega),lt:=(by show dict+data*8+ret*8≤dict+data*8+ret*8+hz;omega),top:=hs,root0:=hr0.1,root1:=hr0.2 }
 · intro g hg
   have hg:lo≤g∧g<hi2:=hg;omega
 · unfold Bk.all Bk.foot
   dsimp only;intro g hg;omega
def OfPost (d t r h:Int) (w:World) (e:Ending) (w':World):Prop :=
 ∃ (K:Bk) (x:Nat),e=.returned (.tuple #[.pointer (some ⟨K.mb,0,none⟩),.pointer (some ⟨x,0,none⟩),.bool true])∧RFv w' K (L17.vm d t r h)∧(∀ g,K.all g→w.heap.size≤g)∧Keeps (fun _=>False) w w'
def Made15 (d t r h:Int) (w:World) (e:Ending) (w':World):Prop :=
 ∃ K:Bk,e=.returned (.tuple #[.pointer (some ⟨K.mb,0,none⟩),.int .i64 0])∧RFv w' K (L17.vm d t r h)∧(∀ g,K.all g→w.heap.size≤g)∧Keeps (fun _=>False) w w'
theorem made15 (d t r h:Int) (P:L17.Parts d t r h) (w:World):Calls Tryz.prog 71 #[.agg #[.int .i64 d,.int .i64 t,.int .i64 r,.int .i64 h,.int .i64 4],.string ⟨#[]⟩] w (Made15 d t r h w):=by
 have ok:=P.ok;refine (vm_new w d t r h 4 [] _ _ _ 8 16 24 2824 P.ok).mono fun e w' hp=>?_
 have d8:=ok.d8;have t0:=ok.t0;have r0:=ok.r0;have h16:=ok.h16;exact hp.rfvx ok.d8 ok.dm ok.t0 ok.r0 (by omega) (by decide) (by rw [P.sz];omega) (by decide)
def Ref15 (d t r h:Int) (w:World) (e:Ending) (w':World):Prop :=
 ∃ (x bb:Nat) (c:Rc),e=.returned (.tuple #[.pointer (some ⟨x,0,none⟩),.int .i64 0])∧RRc w' x c∧RRs w' c.ss c.ms bb (L17.y d t r h)∧RRk w' c.ds c.ms d t (-3) (-4)∧RRk w' c.rs c.ms (d+t*8) r (-5) (-6)∧c.root=8∧c.base=16∧c.list=24∧c.inp=[]∧Keeps (fun _=>False) w w'
theorem ref15 (d t r h:Int) (P:L17.Parts d t r h) (w:World):Calls Tryz.prog 72 #[.int .i64 d,.int .i64 t,.int .i64 r,.int .i64 h,.string ⟨#[]⟩] w (Ref15 d t r h w) :=
 (ref_new w d t r h 4 [] _ _ _ 8 16 24 2824 P.ok).mono fun e w' ⟨x,bb,c,h1,h2,h3,h4,h5,h6,h7,h8,h9,h10,h11,h12⟩=>⟨x,bb,c,h1,h2,h3,h4,h5,h6,h7,h9,h10,h12⟩
theorem idle17 (d t r h:Int):Idle (L17.vm d t r h):=⟨rfl,rfl,rfl,rfl,rfl⟩
theorem of_gen (w:World) (a b t r:Int) (P:L17.Parts (a*8) t r (b*8)) (a1:a≤8000) (b1:b≤8000) (b0:0≤b) (t1:t≤255) (r1:r≤255) :
 Calls Tryz.prog 15 #[.agg #[.int .u16 (a*8),.int .u16 (b*8),.int .u8 t,.int .u8 r],.string ⟨#[]⟩] w (OfPost (a*8) t r (b*8) w):=by
 have e1:(a*8).tdiv 8=a:=Int.mul_tdiv_cancel a (by decide)
 have e2:(b*8).tdiv 8=b:=Int.mul_tdiv_cancel b (by decide)
 have a0:0≤a:=by have:=P.ok.d8;omega
 have t0:0≤t:=P.ok.t0;have r0:0≤r:=P.ok.r0;have HV:=h_ fun V=>made15 (a*8) t r (b*8) P V
 have HX:=h_ fun V=>ref15 (a*8) t r (b*8) P V
 have HS:=h_ fun V K x bb c hv hc hs hd hr hb hi=>same15 V K (L17.vm (a*8) t r (b*8)) x bb c hv (idle17 (a*8) t r (b*8)) hc hs (a*8) t (-3) (-4) ((a*8)+t*8) r (-5) (-6) hd hr hb hi
 have HB:=h_ (al2 w (.cells #[.int .u16 (a*8),.int .u16 (b*8),.int .u8 t,.int .u8 r] 33) (.cells #[.int .i64 (a*8),.int .i64 t,.int .i64 r,.int .i64 (b*8),.int .i64 4] 119))
 go_enter Tryz.func15,Tryz.ntmps15
 go_wp2_with fail;refine (HV.out _).mono ?_;rintro e w1 ⟨K,rfl,v1,f1,k1⟩;have V1:=h_ v1;have hz:=k1.heap HB.out.2.1 id;have K1:=h_ (HB.out.2.2.trans k1);have F1:=h_ (fun g hg=>Nat.le_trans HB.out.2.2.size (f1 g hg))
 have y0:=cell_of (i:=0) hz rfl;have y1:=cell_of (i:=1) hz rfl;have y2:=cell_of (i:=2) hz rfl;have y3:=cell_of (i:=3) hz rfl;clear v1 f1 k1 hz HB HV;go_wp2_with fail;refine (HX.out w1).mono ?_;rintro e w2 ⟨x,bb,c,rfl,hc,hs,hd,hr,q1,q2,q3,q4,k2⟩;have V2:=h_ (V1.out.keeps0 k2);have HH:=h_ fun V (k:Keeps (fun _=>False) w2 V)=>sp_here V K.s K.b K.bb (L17.vm (a*8) t r (b*8)).x (V2.out.keeps0 k).vm.sp
 have HSM:=h_ (HS.out w2 K x bb c V2.out hc hs hd hr q2 q4);have HSM2:=h_ (fun V (k:Keeps (fun _=>False) w2 V)=>HS.out V K x bb c (V2.out.keeps0 k) (hc.keeps k id) (hs.keeps k id id id) (k.heap hd id) (k.heap hr id) q2 q4)
 have z0:w2.cell? ⟨K.mb,0,none⟩=some (.pointer (some ⟨K.s,0,none⟩)):=V2.out.m0;have z7:w2.cell? ⟨K.mb,7,none⟩=some (.int .i64 8):=V2.out.m7;have z8:w2.cell? ⟨K.mb,8,none⟩=some (.int .i64 24):=V2.out.m8;have z9:w2.cell? ⟨K.mb,9,none⟩=some (.int .i64 4):=V2.out.m9;have z12:w2.cell? ⟨K.mb,12,none⟩=some (.string ⟨#[]⟩):=V2.out.m12;have x1:w2.cell? ⟨x,1,none⟩=some (.pointer (some ⟨c.ss,0,none⟩)):=hc.c1;have x9:w2.cell? ⟨x,9,none⟩=some (.int .i64 8):=by rw [← q1];exact hc.c9
 have x12:w2.cell? ⟨x,12,none⟩=some (.int .i64 24):=by rw [← q3];exact hc.c12
 have xh:w2.cell? ⟨c.ss,3,none⟩=some (.int .i64 (L17.vm (a*8) t r (b*8)).x.here):=hs.c3;generalize (L17.vm (a*8) t r (b*8)).x.here=hh at HH xh;have K2:=h_ (K1.out.trans k2);clear hc hs hd hr q1 q2 q3 q4 k2 HS HX V1 y0 y1 y2 y3;go_wp2_with fail
 (try dsimp only [List.append])
 go_region_held3 (fun V=>V.cell? ⟨K.mb,0,none⟩=some (.pointer (some ⟨K.s,0,none⟩))∧V.cell? ⟨K.mb,7,none⟩=some (.int .i64 8)∧V.cell? ⟨K.mb,8,none⟩=some (.int .i64 24)∧V.cell? ⟨K.mb,9,none⟩=some (.int .i64 4)∧V.cell? ⟨K.mb,12,none⟩=some (.string ⟨#[]⟩) ∧
  V.cell? ⟨x,1,none⟩=some (.pointer (some ⟨c.ss,0,none⟩))∧V.cell? ⟨x,9,none⟩=some (.int .i64 8)∧V.cell? ⟨x,12,none⟩=some (.int .i64 24)∧V.cell? ⟨c.ss,3,none⟩=some (.int .i64 hh))
  (first | exact ⟨z0,z7,z8,z9,z12,x1,x9,x12,xh⟩ | go_keep)
  (first
    | (go_at_call 35;refine (HH.out w2.drew (Keeps.drew _ _)).mono ?_;rintro e w3 ⟨rfl,rfl⟩;dsimp only))
 clear z0 z7 z8 z9 z12 x1 x9 x12 xh;go_wp2_with fail;refine (HSM2.out _ (Keeps.drew _ _)).mono ?_;rintro e w4 ⟨rfl,k4⟩;have K4:=h_ ((K2.out.trans (kd_ w2)).trans k4);have V4:=h_ ((V2.out.keeps0 (Keeps.drew _ _)).keeps0 k4);clear k4;go_wp2_with fail
 go_ret3
 exact ⟨K,x,rfl,V4.out,F1.out,K4.out⟩
theorem of_A (w:World):Calls Tryz.prog 15 #[.agg #[.int .u16 8000,.int .u16 400,.int .u8 20,.int .u8 20],.string ⟨#[]⟩] w (OfPost 8000 20 20 400 w):=of_gen w 1000 50 20 20 L17.pA (by decide) (by decide) (by decide) (by decide) (by decide)
theorem of_C (w:World):Calls Tryz.prog 15 #[.agg #[.int .u16 12000,.int .u16 400,.int .u8 60,.int .u8 30],.string ⟨#[]⟩] w (OfPost 12000 60 30 400 w):=of_gen w 1500 50 60 30 L17.pC (by decide) (by decide) (by decide) (by decide) (by decide)
def ReaderPost (w:World) (K:Bk) (v:VM) (e:Ending) (w':World):Prop :=
 ∃ ob pm np mm Z,e=.returned (.pointer (some ⟨ob,0,none⟩))∧RJ RE0 (Gk0 K ob pm np mm) w' Z (rd0 v,())∧(∀ g,Z g→K.all g∨w.heap.size≤g)∧Keeps (fun _=>False) w w'
theorem new17 (w:World) (K:Bk) (v:VM) (h:RFv w K v) (hg:Glo w) (hk:∀ g,g<4→¬ K.all g):Calls Tryz.prog 16 #[.pointer (some ⟨K.mb,0,none⟩)] w (ReaderPost w K v) :=
 (outer_news w K.mb K.s K.b K.bb _ v.x h.vm.mc rfl h.vm.sp).mono fun e w' hp=>reader_of w w' K v h hg hk e hp
theorem cd17 (d t r h:Int) (n:Int) (m:Prop) (b:Nat) (ht:n≤t) (hr:n≤r):VM.Cd ⟨n,m,b⟩ (L17.vm d t r h) :=
 ⟨⟨⟨by show (-10000:Int) ≤ -3;decide,by show (-3:Int)≤10000;decide⟩,⟨by show (-10000:Int) ≤ -4;decide,by show (-4:Int)≤10000;decide⟩,ht⟩,⟨⟨by show (-10000:Int) ≤ -5;decide,by show (-5:Int)≤10000;decide⟩,⟨by show (-10000:Int) ≤ -6;decide,by show (-6:Int)≤10000;decide⟩,hr⟩⟩
theorem text17 (w1:World) (Z:Nat→Prop) (K:Bk) (ob pm np mm:Nat) (hj:RJ RE0 (Gk0 K ob pm np mm) w1 Z (L17.r1,())):Calls Tryz.prog 17 #[.pointer (some ⟨ob,0,none⟩),.string ⟨L17.src.toArray⟩] w1 (PJ RE0 (Gk0 K ob pm np mm) Z w1 L17.out1) :=
 rj_text 4000000 (ext0_ok K ob pm np mm) (reset0_ok K ob pm np mm) (e0_fine (K0 4000000)) w1 Z (L17.r1,()) L17.src (by decide) (cd17 8000 20 20 400 0 True 4000000 (by decide) (by decide)) (by show 19+40*(100:Int).toNat≤4000000;decide) hj
theorem fuel17 (w1:World) (Z:Nat→Prop) (K:Bk) (ob pm np mm:Nat) (hj:RJ RE0 (Gk0 K ob pm np mm) w1 Z (rd0 (L17.vm 8000 20 20 400),())) :
 ∃ Z',RJ RE0 (Gk0 K ob pm np mm) (w1.setCell ⟨K.mb,10,none⟩ (.int .i64 100)) Z' (L17.r1,())∧Evo w1 Z (w1.setCell ⟨K.mb,10,none⟩ (.int .i64 100)) Z':=rj_fuel (ext0_ok K ob pm np mm) w1 Z _ 100 (by decide) (by decide) hj
theorem lives17 (w:World) (hg:Glo w):Calls Tryz.prog 13 #[] w fun e w'=>e=.returned (.bool true)∧Keeps (fun _=>False) w w':=by
 have HO:=h_ (of_A w);have h4:=hg.lt;have HN:=h_ fun w1 K (hv:RFv w1 K (L17.vm 8000 20 20 400)) (hk:∀ g,K.all g→w.heap.size≤g) (k:Keeps (fun _=>False) w w1)=>new17 w1 K _ hv (hg.keeps0 k) (fun g hg e=>by have:=hk g e;omega)
 have HT:=h_ text17;have HF:=h_ fuel17;obtain ⟨hL1,hL2⟩:=L17.lives;generalize L17.out1=q at HT hL1 hL2;generalize L17.r1=rr at HT HF;obtain ⟨⟨r1,u1⟩,e1⟩:=q;dsimp only at hL1 hL2;subst hL1;have HOUT:=h_ hL2;clear hL2 hg h4
 go_enter Tryz.func13,Tryz.ntmps13
 go_wp2_with fail;refine HO.out.mono ?_;rintro e w1 ⟨K,x,rfl,v1,f1,k1⟩;have V1:=h_ v1;have K1:=h_ k1;have F1:=h_ f1;clear v1 k1 f1 HO;go_wp2_with fail;refine (HN.out w1 K V1.out F1.out K1.out).mono ?_;rintro e w2 ⟨ob,pm,np,mm,Z,rfl,j2,z2,k2⟩;have fr:w2.frozen? ⟨K.mb,10,none⟩=false:=(j2.rd.elim fun X h=>h.fv.free 10)
 obtain ⟨p10v,p10⟩:∃ v,w2.cell? ⟨K.mb,10,none⟩=some v:=j2.rd.elim fun X h=>⟨_,h.v10⟩
 obtain ⟨Z3,j3,e3⟩:=HF.out w2 Z K ob pm np mm j2;have J3:=h_ j3;have E3:=h_ e3;have K2:=h_ (K1.out.trans k2);have hs1:=K1.out.size;have HZ:=h_ (show ∀ g,Z g→w.heap.size≤g from fun g hg=>(z2 g hg).elim (F1.out g) (fun e=>by omega))
 clear j2 z2 k2 j3 e3 hs1 HN HF V1 F1;go_wp2_with fail;refine (HT.out _ Z3 K ob pm np mm J3.out).mono ?_;rintro e w4 ⟨rfl,Z4,j4,e4⟩;have m11:=j4.rd.elim fun X h=>h.fv.m11
 dsimp only at m11;rw [HOUT.out] at m11;have m11:w4.cell? ⟨K.mb,11,none⟩=some (.string ⟨#[50,53,32]⟩):=m11;have KE:=h_ (K2.out.trans' (E3.out.trans e4).k (fun i hi e=>by have:=HZ.out i e;omega))
 clear j4 e4;go_wp2_with fail;go_ret
 exact ⟨rfl,KE.out⟩
def darks (s:List UInt8):List UInt8:=s.filter fun c=>decide (32<c.toNat)
def cleanT (s:List UInt8):List UInt8:=darks (s.take 20)++[120]
theorem darks_step (s:List UInt8) (i:Nat) (h:i<s.length):darks (s.take (i+1))=darks (s.take i)++(if 32<s[i].toNat then [s[i]] else []):=by
 unfold darks;rw [List.take_succ_eq_append_getElem h,List.filter_append,List.filter_cons];split <;> rename_i hc <;> simp at hc <;> simp [hc]
theorem clean17 (w:World) (s:List UInt8) (hs:s.length≤4611686018427387904):Calls Tryz.prog 41 #[.string ⟨s.toArray⟩] w fun e w'=>e=.returned (.string ⟨(cleanT s).toArray⟩)∧Keeps (fun _=>False) w w':=by
 obtain ⟨m,hm,hm1,hm2,hmr⟩:∃ m:Nat,m≤s.length∧m≤20∧s.take 20=s.take m∧∀ V,(Builtin.min_ #[3,3] 3 #[.int .i64 (s.length:Int),.int .i64 20]).run Tryz.prog V=.ok (.int .i64 (m:Int)) V:=by
  by_cases h:s.length≤20
  · refine ⟨s.length,Nat.le_refl _,h,?_,fun V=>?_⟩
    · rw [List.take_of_length_le h,List.take_length]
    · show Result.ok (Value.int .i64 (if 20<(s.length:Int) then 20 else (s.length:Int))) V=_
      rw [if_neg (by omega)]
  · refine ⟨20,by omega,Nat.le_refl _,rfl,fun V=>?_⟩
    show Result.ok (Value.int .i64 (if 20<(s.length:Int) then 20 else (s.length:Int))) V=_
    rw [if_pos (by omega)]
    rfl
 have HC:=h_ (show cleanT s=darks (s.take m)++[120] by unfold cleanT;rw [hm2])
 have HX:=h_ fun i (h:i<s.length)=>str_extract s i (i+1) (by omega)
 clear hm2
 go_enter Tryz.func41,Tryz.ntmps41
 go_wp2_with fail
 go_loopw [3,8] (fun ov iv wr=>∃ i:Nat,iv=.int .i64 i∧i≤m∧ov=.string ⟨(darks (s.take i)).toArray⟩∧Keeps (fun _=>False) w wr) (fun _ iv _=>m-(intOf iv).toNat)
 case atStart=>exact ⟨0,rfl,Nat.zero_le _,by rw [List.take_zero];rfl,Keeps.refl _ _⟩
 case round =>
  obtain ⟨i,rfl,hi,rfl,hk⟩:=hrel;have HK:=h_ hk;clear hk;by_cases hlt:i<m
  · have hls:i<s.length:=by omega
    have hi0:(0:Int)≤(i:Int):=by omega
    have hiI:(i:Int)<(m:Int):=by omega
    have hiS:(i:Int)<(s.length:Int):=by omega
    have cw:wrap64 ((i:Int)+1)=(i:Int)+1:=IntWalk.wrap64_in _ (by omega)
    have b1:(i:Int)+1≤(s.length:Int):=by omega
    have b0:(i:Int)≤(i:Int)+1:=by omega
    have hget:(⟨s.toArray⟩:ByteArray)[i]'(show i<(⟨s.toArray⟩:ByteArray).size from hls)=s[i]:=rfl
    have hdl:(darks (s.take i)).length≤20:=by
     refine Nat.le_trans (List.length_filter_le _ _) ?_;rw [List.length_take];omega
    have hst:=h_ (darks_step s i hls);have hxx:=h_ (HX.out i hls);have hta:=h_ (show (s.drop i).take (i+1-i)=[s[i]] by rw [show i+1-i=1 by omega,List.drop_eq_getElem_cons hls];rfl)
    generalize s[i]=c at hget hst hta;by_cases hc:(32:Int)<(c.toNat:Int)
    · have hcn:¬ 9223372036854775807<(darks (List.take i s)).length+(min (i+1) s.length-i):=by omega
      go_wp2_with fail
      go_roundw
      case rel =>
       refine ⟨i+1,rfl,hlt,?_,HK.out⟩;rw [hst.out,if_pos (by omega),← str_app]
       have h:=Value.string.inj hxx.out;rw [hta.out] at h;rw [← h]
      case measure=>first | exact measS' hlt | exact measS hlt cw
    · go_wp2_with fail
      go_roundw
      case rel =>
       refine ⟨i+1,rfl,hlt,?_,HK.out⟩;rw [hst.out,if_neg (by omega),List.append_nil]
      case measure=>first | exact measS' hlt | exact measS hlt cw
  · have he:i=m:=by omega
    subst he
    have hdl:(darks (s.take i)).length≤20:=by
     refine Nat.le_trans (List.length_filter_le _ _) ?_;rw [List.length_take];omega
    have hcn:¬ 9223372036854775807<(darks (List.take i s)).length+1:=by omega
    have hap:=h_ (str_app (darks (s.take i)) [120]);go_wp2_with fail;go_ret
    refine ⟨?_,HK.out⟩;rw [HC.out,← hap.out]
    first | rfl | skip
end Go.Proofs.Shed
set_option maxRecDepth 100000
namespace Go.Proofs.Shed
open Go.RowKit Go.Proofs.Cod
namespace C17
def vm:VM:={ L17.vm 12000 60 30 400 with fuel:=500 }
def x0:Sp:=L17.y 12000 60 30 400
def x1:Sp:=(x0.create 24 [119] 2 1001).1
def w1:Wd:=⟨2832,2856,2,[119]⟩
theorem create_is:x0.create 24 [119] 2 1001=(x1,w1,0):=by decide +kernel
theorem here0:x0.here=2832:=by decide +kernel
theorem x1_is:x1.here=2864∧x1.lo=8∧x1.to=12000∧x1.mem.size=12000+60*8+30*8+400:=by decide +kernel
theorem below1:x1.mem.below 2864 x1.mem.size x1.mem.size (x1.mem.cell 24).1=true:=by decide +kernel
theorem plain1:(x1.mem.words 24).all (fun w=>!Num.numeric w.name)=true:=by decide +kernel
theorem base1:x1.mem.cell 16=(10,0):=by decide +kernel
theorem room1 (k:Nat) (h:k≤1000):x1.Room k:=by
 obtain ⟨h1,h2,h3,h4⟩:=x1_is;refine ⟨⟨?_,?_,?_,?_⟩,?_,?_⟩
 · rw [h2];decide
 · rw [h1,h2];decide
 · rw [h1,h3];decide
 · rw [h3,h4];decide
 · rw [h1];decide
 · rw [h1,h3];omega
def pf:List UInt8→Option Int:=pfL (x0.mem.words 24)
def tok (s:List UInt8):Int:=(pf s).getD 0
def nums (l:List Int):List Int:=l.flatMap fun n=>[tok [108,105,116],n]
theorem nums_len (l:List Int):(nums l).length=2*l.length:=by
 unfold nums
 induction l with
 | nil=>rfl
 | cons n l ih=>rw [List.flatMap_cons,List.length_append,ih,List.length_cons];simp;omega
def body (l:List Int):List Int:=nums l++[tok [43],5]++[tok [101,120,105,116]]
def X (l:List Int):Sp:=Sp.cells (body l) x1
def Y (l:List Int):Sp:={ X l with mem:=((X l).mem.markWd 2832 0).1 }
def r0:Rd:=rd0 vm
def rk:Rd:={ r0 with here:=x0.here,list:=(x0.mem.cell 24).1,is:=true }
def ra (l:List Int):Rd:={ rk with v:={ vm with x:=Sp.cells l x1 },last:=w1,comp:=true }
theorem make_is:rk.make 24 [119] 1001 2 []=({ rk with v:={ vm with x:=x1 },last:=w1 },w1,0):=by
 have h:rk.v.x.create 24 [119] 2 1001=(x1,w1,0):=create_is
 have h2:rk.made2 24 [119] 1001 2 []=({ rk with v:={ vm with x:=x1 } },0):=by
  unfold Rd.made2 Rd.made;rw [h,if_neg (by simp)]
  rfl
 unfold Rd.make;rw [h2,if_neg (by simp),h]
theorem commas_ra (l k:List Int) (h:l.length+k.length≤1000):Rd.commas k (ra l)=(ra (l++k),0):=by
 have hr:(ra l).v.x.Room k.length:=Sp.cells_room l (room1 (l.length+k.length) h);rw [commas_room k (ra l) hr]
 show (({ ra l with v:={ (ra l).v with x:=Sp.cells k (Sp.cells l x1) } }:Rd),(0:Int))=_
 rw [← Sp.cells_append];rfl
theorem literal_ra (l k:List Int) (h:l.length+2*k.length≤1000):(ra l).literal k=(ra (l++nums k),0):=by
 unfold Rd.literal;rw [if_pos (show (ra l).comp=true from rfl)]
 exact commas_ra l (nums k) (by rw [nums_len];exact h)
theorem compile_ra (l:List Int) (s:List UInt8) (k:List Int) (h:l.length+1+k.length≤1000):(ra l).compile s k=(ra (l++tok s :: k),0) :=
 commas_ra l (tok s :: k) (by rw [List.length_cons];omega)
theorem lit_is (l:List Int) (h:l.length≤40):(ra []).literal l=(ra (nums l),0):=literal_ra [] l (by simp;omega)
theorem plus_is (l:List Int) (h:l.length≤40):(ra (nums l)).compile [43] [5]=(ra (nums l++[tok [43],5]),0):=compile_ra _ _ _ (by rw [nums_len];simp;omega)
def rs (l:List Int):Rd:={ ra l with comp:=false }
theorem stop_is (l:List Int):(ra l).stop=(rs l,0):=by
 unfold Rd.stop;rw [if_neg (by show ¬ (true=false∨([]:List (Int × Int))≠[]);simp)]
 rfl
theorem exit_is (l:List Int) (h:l.length≤40):(rs (nums l++[tok [43],5])).compile [101,120,105,116] []=(rs (body l),0):=by
 have hr:(rs (nums l++[tok [43],5])).v.x.Room [tok [101,120,105,116]].length:=Sp.cells_room (nums l++[tok [43],5]) (room1 _ (by rw [List.length_append,nums_len];simp;omega))
 show Rd.commas [tok [101,120,105,116]] _=_
 rw [commas_room _ _ hr]
 show (({ rs (nums l++[tok [43],5]) with v:={ (rs (nums l++[tok [43],5])).v with x:=Sp.cells [tok [101,120,105,116]] (Sp.cells (nums l++[tok [43],5]) x1) } }:Rd),(0:Int))=_
 rw [← Sp.cells_append];rfl
def rz (l:List Int):Rd:={ rs l with v:={ vm with x:=Y l },here:=0,list:=0,is:=false }
end C17
end Go.Proofs.Shed
